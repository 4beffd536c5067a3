/-
  RingNil: a ring that isn't there keeps nothing. Proved for every input; no condition.
-/
import Derived.Test.YtokpdhcgclfmnaaRows
import Derived.Test.YtokpdhcgclfmnaaRing4
import Derived.OpenShut
import Derived.Deep.RegionWith
namespace Go.Proofs.Ytokpdhcgclfmnaa
open Go.RowKit Go.Deep Go.ChangeShapes Go.WideShapes Go.ChangeAt

theorem awake09 (w : World) :
    Calls Try.prog 12 #[] w fun e w' => e = .returned (.bool true) ∧ Only [] w w' := by
  go_enter Try.func12, Try.ntmps12
  go_wp2_with (go_at_call 13; refine (ringis_new 2 _ (by omega) (by omega)).mono ?_; rintro e w1 ⟨b, g, rfl, hr1, ho1, hb, hg⟩)
  have hb1 := hr1.lt
  go_wp2_with (go_at_call_of 15 (Value.int IntKind.u64 1); refine (ringis_push _ b g 2 [] 1 hr1 (by decide)).mono ?_; rintro e w2 ⟨rfl, hr2, ho2⟩)
  go_wp2_with (go_at_call_of 15 (Value.int IntKind.u64 2); refine (ringis_push _ b g 2 [1] 2 hr2 (by decide)).mono ?_; rintro e w3 ⟨rfl, hr3, ho3⟩)
  go_wp2_with (go_at_call_of 15 (Value.int IntKind.u64 3); refine (ringis_push_full _ b g 2 [2] 3 1 hr3 rfl).mono ?_; rintro e w4 ⟨rfl, hr4, ho4⟩)
  go_wp2_with (go_at_call 22; refine (ringis_all _ b g 2 [2, 3] hr4).mono ?_; rintro e w5 ⟨v, rfl, hown, ho5⟩)
  go_wp2_with (go_at_call 21; refine (same_any _ _ [2, 3] [2, 3] [] [] _ ((Rd.of_own hown (by simp)).1.only ((Only.refl [] w5).alloc _) (by simp)) (rd_new w5 33 [] (ints .u64 [2, 3]) (by simp) (by decide))).mono ?_; rintro e w6 ⟨rfl, k, rfl⟩)
  go_ret
  refine ⟨rfl, ?_⟩
  have hO : ∀ {w w' : World}, w1.heap.size ≤ w.heap.size → Only [b, g] w w' → Only [b, g] w w' := fun _ h => h
  have h14 : Only [b, g] w1 w4 := (ho2.trans ho3).trans ho4
  have h04 : Only [] w w4 := (ho1.mono (S' := [b, g]) (by simp)).trans h14 |>.mono (fun x hx => .inr (by simp at hx; rcases hx with rfl | rfl <;> assumption))
  exact ((h04.trans ho5).alloc _).drewN _

theorem ring_nil_law (x : Int) (w : World) :
    Calls Try.prog 5 #[.int .u64 x] w fun e w' => e = .returned (.bool true) ∧ Only [] w w' := by
  go_enter Try.func5, Try.ntmps5
  go_wp2_with (first
    | (go_at_call 12; refine (awake09 _).mono ?_; rintro e w1 ⟨rfl, ho1⟩)
    | (go_at_call 15; refine (ring_nil_push x _).mono ?_; rintro e w2 ⟨rfl, ho2⟩)
    | (go_at_call 16; refine (ring_nil_pop _).mono ?_; rintro e w3 ⟨rfl, ho3⟩)
    | (go_at_call 17; refine (ring_nil_back _).mono ?_; rintro e w4 ⟨rfl, ho4⟩)
    | (go_at_call 19; refine (ring_nil_len _).mono ?_; rintro e w5 ⟨rfl, rfl⟩)
    | (go_at_call 20; refine (ring_nil_room _).mono ?_; rintro e w5 ⟨rfl, rfl⟩)
    | (go_at_call 22; refine (ring_nil_all _).mono ?_; rintro e w5 ⟨rfl, rfl⟩)
    | (go_at_call 18; refine (ring_nil_clear _).mono ?_; rintro e w5 ⟨rfl, rfl⟩))
  go_ret
  exact ⟨rfl, ((ho1.trans ho2).trans ho3).trans ho4⟩

theorem own_ringNil : ownKnob Try.prog.godebug = none := by kernel_rfl
theorem laidOut_ringNil : laidOutB Try.prog = true := by kernel_rfl

set_option maxRecDepth 100000 in
theorem lifted_ringNil (os : Os) (started : os.Started) (H : Type) (enc : TypeId × Value → H) :
    ReturnsInHanded {} Try.checked os 5 .any (Rows.ringNilSpec.pre6 enc Try.prog Try.f5 Rows.ringNilRow.domain false) (Rows.ringNilSpec.post enc Try.prog Try.f5 false true false false) := by
  refine returnsInHanded_of_change (C := Try.checked) own_ringNil started (by kernel_rfl) Try.func5
    (ChangeSpec.witness6 (enc := enc) (C := Try.checked) false ⟨#[], #[.int .u64 0], []⟩ 8 (by kernel_rfl) (by kernel_rfl) (by kernel_rfl) (by kernel_rfl)) ?_
  intro W base args ds gs before hval0 hW hcnd _
  have hval : ∀ (j : Nat) t v, Try.f5.params[j]? = some t → args[j]? = some v → Value.okWide Try.prog W .any base t v := hval0
  have hW' := hW
  obtain ⟨p, q, hA0, hV, rfl, hfz, hnd⟩ := hW
  have hA : DataW.TrodAll enc Try.prog W 0 (fun _ => true) true Try.f5.params.toList args.toList ds p := hA0
  rw [Try.params5] at hA hval
  obtain ⟨v0, vs0, d0, ds0, p0, q0, hargs, rfl, rfl, h0, r0⟩ := trodAll_cons hA
  obtain ⟨rfl, rfl, rfl⟩ := trodAll_nil r0
  obtain rfl : args = #[v0] := by cases args; simp_all
  obtain ⟨rfl, rfl⟩ := trodVars_none hV
  obtain ⟨a0, rfl, rfl, rfl, w0⟩ := open_int Try.underlying33 (hval 0 33 v0 rfl rfl) h0
  clear hA0 hval0
  refine ((fun a _ => ring_nil_law a _) a0 w0).mono fun e W' ⟨he, hon⟩ => ?_
  subst he
  have bel : Below W.heap.size W W' := hon.below (fun x hx => by cases hx) (Nat.le_refl _)
  exact ⟨_, rfl, _, _, _, [], _, [], hW', trodAll_mk1 (shut_bool Try.underlying4 _), (trodAll_cons_mk (shut_int Try.underlying33 w0) trodAll_mk0), rfl, bel.frame _, fun h => by cases h⟩

theorem over_ringNil : Rows.ringNilRow.holds Try.pinned (OpenSpec.ofChange Rows.ringNilSpec) :=
  OpenClaim.holds_of_wide 5 Try.f5 rfl rfl rfl rfl rfl rfl rfl ⟨rfl, rfl, rfl, rfl, rfl⟩ rfl rfl rfl rfl rfl (by kernel_rfl) Try.func5 (by kernel_rfl)
    (of_decide_eq_true (by kernel_rfl)) (by unfold Func.isWrapper; first | (rw [if_pos (by decide +kernel)]; kernel_rfl) | (rw [if_neg (by decide +kernel)]; exact ⟨rfl, rfl⟩))
    (fun os started H enc _ => lifted_ringNil os started H enc)

theorem ringNil_proved : Rows.RingNilSaid := over_ringNil
#print axioms ringNil_proved
end Go.Proofs.Ytokpdhcgclfmnaa

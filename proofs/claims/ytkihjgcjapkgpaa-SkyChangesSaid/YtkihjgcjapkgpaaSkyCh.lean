/-
  SkyChanges: the changes from mast to mast are those of the chapter, second by second, or there is its error; turned they are the same. Proved for every input; no condition.
-/
import Derived.Test.YtkihjgcjapkgpaaRows
import Derived.Test.YtkihjgcjapkgpaaSkyO
import Derived.Test.YtkihjgcjapkgpaaSkyCa
import Derived.Test.YtkihjgcjapkgpaaSkyCb
namespace Go.Proofs.Ytkihjgcjapkgpaa
open Go.RowKit Go.Deep Go.ChangeShapes Go.WideShapes Go.ChangeAt

theorem skych_law (mv : Value) (m : List (Int × Int)) {w : World} (hm : RdS 2 ptc w [] mv m ∧ ∀ p ∈ m, Fit p) (s : Int × Int) (lv : Value) (l : List Lg) (hr : RdS 3 lgc w [] lv l) (hf : ∀ g ∈ l, Fit3 g) (hs : Fit s) (T : Int) (hT : (Lit.int .i64 T).wf = true) (q : Int) (hq : (Lit.int .i64 q).wf = true) :
    Calls Try.prog 4 #[mv, .agg #[.int .i64 s.1, .int .i64 s.2, lv], .int .i64 T, .int .i64 q] w fun e w' => e = .returned (.bool true) ∧ Only [] w w' := by
  have bT := bounds_i64 hT
  have bq := bounds_i64 hq
  by_cases h1 : 20 < m.length
  · exact skych_g1 w mv lv m s l T q hm.1 hm.2 hr hf hs h1
  by_cases h2 : 10 < l.length
  · exact skych_g2 w mv lv m s l T q hm.1 hm.2 hr hf hs h1 h2
  by_cases h3 : 200 < T ∧ T ≤ 100000
  · exact skych_g3 w mv lv m s l T q hm.1 hm.2 hr hf hs h1 h2 h3.1 h3.2
  cases hmv : mastsV m with
  | false =>
    by_cases h4 : 200 < T
    · exact skych_badmb w mv lv m s l T q hm.1 hm.2 hr hf hs h1 h2 hmv h4 (fun h => h3 ⟨h4, h⟩)
    · exact skych_badma w mv lv m s l T q hm.1 hm.2 hr hf hs h1 h2 hmv h4
  | true =>
    cases hrv : routesV s l with
    | false =>
      by_cases h4 : 200 < T
      · exact skych_badrb w mv lv m s l T q hm.1 hm.2 hr hf hs h1 h2 hmv hrv h4 (fun h => h3 ⟨h4, h⟩)
      · exact skych_badra w mv lv m s l T q hm.1 hm.2 hr hf hs h1 h2 hmv hrv h4
    | true =>
      by_cases h4 : T < 0
      · exact skych_argn w mv lv m s l T q hm.1 hm.2 hr hf hs h1 h2 hmv hrv h4
      by_cases h5 : 100000 < T
      · exact skych_argp w mv lv m s l T q hm.1 hm.2 hr hf hs h1 h2 hmv hrv h5
      obtain ⟨u, hu⟩ := Int.eq_ofNat_of_zero_le (show 0 ≤ T by omega)
      exact skych_ok w mv lv m s l T q hm.1 hm.2 hr hf hs h1 h2 hmv hrv bq.1 bq.2 u (by omega) hu

theorem own_skyChanges : ownKnob Try.prog.godebug = none := by kernel_rfl
theorem laidOut_skyChanges : laidOutB Try.prog = true := by kernel_rfl

set_option maxRecDepth 100000 in
theorem lifted_skyChanges (os : Os) (started : os.Started) (H : Type) (enc : TypeId × Value → H) :
    ReturnsInHanded {} Try.checked os 4 .any (Rows.skyChangesSpec.pre6 enc Try.prog Try.f4 Rows.skyChangesRow.domain false) (Rows.skyChangesSpec.post enc Try.prog Try.f4 false true false false) := by
  refine returnsInHanded_of_change (C := Try.checked) own_skyChanges started (by kernel_rfl) Try.func4
    (ChangeSpec.witness6 (enc := enc) (C := Try.checked) false ⟨#[], #[.slice none 0 0, .agg #[.int .i64 0, .int .i64 0, .slice none 0 0], .int .i64 0, .int .i64 0], []⟩ 8 (by kernel_rfl) (by kernel_rfl) (by kernel_rfl) (by kernel_rfl)) ?_
  intro W base args ds gs before hval0 hW hcnd _
  have hval : ∀ (j : Nat) t v, Try.f4.params[j]? = some t → args[j]? = some v → Value.okWide Try.prog W .any base t v := hval0
  have hW' := hW
  obtain ⟨p, q, hA0, hV, rfl, hfz, hnd⟩ := hW
  have hA : DataW.TrodAll enc Try.prog W 0 (fun _ => true) true Try.f4.params.toList args.toList ds p := hA0
  rw [Try.params4] at hA hval
  obtain ⟨v0, vs0, d0, ds0, p0, q0, hargs, rfl, rfl, h0, r0⟩ := trodAll_cons hA
  obtain ⟨v1, vs1, d1, ds1, p1, q1, rfl, rfl, rfl, h1, r1⟩ := trodAll_cons r0
  obtain ⟨v2, vs2, d2, ds2, p2, q2, rfl, rfl, rfl, h2, r2⟩ := trodAll_cons r1
  obtain ⟨v3, vs3, d3, ds3, p3, q3, rfl, rfl, rfl, h3, r3⟩ := trodAll_cons r2
  obtain ⟨rfl, rfl, rfl⟩ := trodAll_nil r3
  obtain rfl : args = #[v0, v1, v2, v3] := by cases args; simp_all
  obtain ⟨rfl, rfl⟩ := trodVars_none hV
  obtain ⟨a0, len0, cap0, rfl⟩ := okWide_slice Try.underlying22 (hval 0 22 v0 rfl rfl)
  have k0 := h0
  have lt0 : ∀ x ∈ p0, x.block < W.heap.size := by obtain ⟨m, hm⟩ := k0; exact DataW.trod_lt m _ _ _ hm
  obtain ⟨z0, w0⟩ := open_pts h0
  have k1 := h1
  have lt1 : ∀ x ∈ p1, x.block < W.heap.size := by obtain ⟨m, hm⟩ := k1; exact DataW.trod_lt m _ _ _ hm
  obtain ⟨s1, lv1, l1, rfl, ru1, f1, g1⟩ := open_route (hval 1 41 v1 rfl rfl) h1
  obtain ⟨a2, rfl, rfl, rfl, w2⟩ := open_int Try.underlying3 (hval 2 3 v2 rfl rfl) h2
  obtain ⟨a3, rfl, rfl, rfl, w3⟩ := open_int Try.underlying3 (hval 3 3 v3 rfl rfl) h3
  clear hA0 hval0
  refine (skych_law _ z0 w0 s1 lv1 l1 ru1 f1 g1 a2 w2 a3 w3).mono fun e W' ⟨he, hon⟩ => ?_
  subst he
  have bel : Below W.heap.size W W' := hon.below (fun x hx => by cases hx) (Nat.le_refl _)
  exact ⟨_, rfl, _, _, _, [], _, [], hW', trodAll_mk1 (shut_bool Try.underlying4 _), (trodAll_cons_mk (Below.trod laidOut_skyChanges (by kernel_rfl) (of_decide_eq_true (by kernel_rfl)) k0 bel lt0) (trodAll_cons_mk (Below.trod laidOut_skyChanges (by kernel_rfl) (of_decide_eq_true (by kernel_rfl)) k1 bel lt1) (trodAll_cons_mk (shut_int Try.underlying3 w2) (trodAll_cons_mk (shut_int Try.underlying3 w3) trodAll_mk0)))), rfl, bel.frame _, fun h => by cases h⟩

theorem over_skyChanges : Rows.skyChangesRow.holds Try.pinned (OpenSpec.ofChange Rows.skyChangesSpec) :=
  OpenClaim.holds_of_wide 4 Try.f4 rfl rfl rfl rfl rfl rfl rfl ⟨rfl, rfl, rfl, rfl, rfl⟩ rfl rfl rfl rfl rfl (by kernel_rfl) Try.func4 (by kernel_rfl)
    (of_decide_eq_true (by kernel_rfl)) (by unfold Func.isWrapper; first | (rw [if_pos (by decide +kernel)]; kernel_rfl) | (rw [if_neg (by decide +kernel)]; exact ⟨rfl, rfl⟩))
    (fun os started H enc _ => lifted_skyChanges os started H enc)

theorem skyChanges_proved : Rows.SkyChangesSaid := over_skyChanges
#print axioms skyChanges_proved
end Go.Proofs.Ytkihjgcjapkgpaa

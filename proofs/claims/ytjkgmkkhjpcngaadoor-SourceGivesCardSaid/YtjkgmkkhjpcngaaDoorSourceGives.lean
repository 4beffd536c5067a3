/-
  SourceGives: from any numbers on whatever is asked is what the chapter says; stamps rise. Proved for every input; no condition.
-/
import Derived.Test.YtjkgmkkhjpcngaaDoorLaid
import Derived.Test.YtjkgmkkhjpcngaaDoorSgl
import Derived.Test.YtjkgmkkhjpcngaaDoorOpen
import Derived.Test.YtjkgmkkhjpcngaaDoorTie
import Derived.Test.YtjkgmkkhjpcngaaDoorCards
import Derived.ChangeMaps5
import Derived.SevenTiedAt
namespace Go.Proofs.YtjkgmkkhjpcngaaDoor
open Go.RowKit Go.Deep Go.ChangeShapes Go.WideShapes Go.ChangeAt

section
variable {H : Type} {enc : TypeId × Value → H} {w : World} {base : Nat} {spare : Nat → Bool} {held : Bool}
theorem act2 {α : Type} {l : List α} (h : l.length = 2) : ∃ a b, l = [a, b] := by
  match l, h with
  | [a, b], _ => exact ⟨a, b, rfl⟩
theorem u8_of {n : Int} (h : (Lit.int .u8 n).wf = true) : 0 ≤ n ∧ n ≤ 255 := by
  simp only [Lit.wf, Bool.and_eq_true, decide_eq_true_eq] at h
  have e1 : IntKind.u8.min = 0 := rfl
  have e2 : IntKind.u8.max = 255 := rfl
  omega
theorem u32_of {n : Int} (h : (Lit.int .u32 n).wf = true) : 0 ≤ n ∧ n ≤ 4294967295 := by
  simp only [Lit.wf, Bool.and_eq_true, decide_eq_true_eq] at h
  have e1 : IntKind.u32.min = 0 := rfl
  have e2 : IntKind.u32.max = 4294967295 := rfl
  omega
theorem dec_act {n : Nat} {cs : List Value} {y : DataW H × List MemPlace} (h : DataW.trod enc Tryd.prog w base spare held n 52 cs = some y) : ∃ p, actC p = cs ∧ (0 ≤ p.1 ∧ p.1 ≤ 255) := by
  obtain ⟨xs, m, _, _, hl, hx, hf⟩ := DataW.trod_struct Tryd.underlying52 h
  rw [show Tryd.prog.cellsOf 52 = 2 from by kernel_rfl] at hl
  obtain ⟨a, b, rfl⟩ := act2 hl
  have h0 := hf 0 _ rfl
  have h1 := hf 1 _ rfl
  simp only [List.getElem_toArray, List.getElem_cons_zero, List.getElem_cons_succ, show Tryd.prog.cellsOf 5 = 1 from by kernel_rfl, show Tryd.prog.cellsOf 2 = 1 from by kernel_rfl] at h0 h1
  rw [List.getElem?_eq_getElem (by rw [hx]; decide)] at h0 h1
  obtain ⟨z0, e0, _, b0⟩ := DataW.trod_int Tryd.underlying5 h0
  obtain ⟨z1, e1, _, _⟩ := DataW.trod_int Tryd.underlying2 h1
  simp at e0 e1
  exact ⟨(z0, z1), by rw [e0, e1]; rfl, u8_of b0⟩
theorem open_acts {A : Option Addr} {len cap : Nat} {d : DataW H} {ps : List MemPlace} (h : DataW.Trod enc Tryd.prog w base spare held 45 (.slice A len cap) d ps) : ∃ l, RdS 2 actC w [] (.slice A len cap) l ∧ ∀ p ∈ l, 0 ≤ p.1 ∧ p.1 ≤ 255 :=
  rds_of_trod Tryd.underlying45 (by kernel_rfl) (by omega) h fun _ _ _ hy => dec_act hy
end
theorem sourceGives_law (a : Int) (ha : (Lit.int .u32 a).wf = true) (i : Int) (hi : (Lit.int .u32 i).wf = true) (v : Value) (l : List (Int × Int)) {w : World} (hv : RdS 2 actC w [] v l ∧ ∀ x ∈ l, 0 ≤ x.1 ∧ x.1 ≤ 255) (htab : Tab w) :
    Calls Tryd.prog 7 #[.int .u32 a, .int .u32 i, v] w fun e w' => e = .returned (.bool true) ∧ Only [] w w' := by
  have h1 := u32_of ha
  have h2 := u32_of hi
  obtain ⟨x, rfl⟩ : ∃ x : Nat, a = (x : Int) := ⟨a.toNat, by omega⟩
  obtain ⟨y, rfl⟩ : ∃ y : Nat, i = (y : Int) := ⟨i.toNat, by omega⟩
  exact sourceGives_walk x y (by omega) (by omega) v l w hv.1 hv.2 htab

set_option maxRecDepth 100000 in
theorem lifted_sourceGives (os : Os) (started : os.Started) (H : Type) (enc : TypeId × Value → H) :
    ReturnsInHanded {} Tryd.checked os 7 .any (fun w args => (Rows.sourceGivesSpec.pre enc Tryd.prog Tryd.f7 Rows.sourceGivesRow.domain false w args ∧ laidMetH Tryd.prog laidAll w) ∧ sizedMet enc Tryd.prog Tryd.f7 (OpenSpec.ofChange Rows.sourceGivesSpec) false w args)
      (Rows.sourceGivesSpec.post enc Tryd.prog Tryd.f7 false true false false) := by
  refine returnsInHanded_of_change_and (C := Tryd.checked) (X := fun w _ => laidMetH Tryd.prog laidAll w) (fun _ _ _ hh h => h.of_heap hh) own_all started (by kernel_rfl) Tryd.func7
    (ChangeSpec.witness_shaped (enc := enc) (C := Tryd.checked) (os := os) (X := fun w _ => laidMetH Tryd.prog laidAll w) false (World.doorLaid Tryd.prog 400 os) #[.int .u32 0, .int .u32 0, .slice none 0 0] 8 rfl (World.shaped_of_RefB (by kernel_rfl) (by kernel_rfl)) (by kernel_rfl) (by kernel_rfl) (by kernel_rfl) (door_met os _)) ?_
  intro W base args ds gs before hval0 hW hcnd _ hL _
  have hval : ∀ (j : Nat) t v, Tryd.f7.params[j]? = some t → args[j]? = some v → Value.okWide Tryd.prog W .any base t v := hval0
  have hW' := hW
  obtain ⟨p, q, hA0, hV, rfl, hfz, hnd⟩ := hW
  have hA : DataW.TrodAll enc Tryd.prog W 0 (fun _ => true) true Tryd.f7.params.toList args.toList ds p := hA0
  rw [Tryd.params7] at hA hval
  obtain ⟨v0, vs0, d0, ds0, p0, q0, hargs, rfl, rfl, h0, r0⟩ := trodAll_cons hA
  obtain ⟨v1, vs1, d1, ds1, p1, q1, rfl, rfl, rfl, h1, r1⟩ := trodAll_cons r0
  obtain ⟨v2, vs2, d2, ds2, p2, q2, rfl, rfl, rfl, h2, r2⟩ := trodAll_cons r1
  obtain ⟨rfl, rfl, rfl⟩ := trodAll_nil r2
  obtain rfl : args = #[v0, v1, v2] := by cases args; simp_all
  obtain ⟨rfl, rfl⟩ := trodVars_none hV
  obtain ⟨a0, rfl, rfl, rfl, w0⟩ := open_int Tryd.underlying44 (hval 0 44 v0 rfl rfl) h0
  obtain ⟨a1, rfl, rfl, rfl, w1⟩ := open_int Tryd.underlying44 (hval 1 44 v1 rfl rfl) h1
  obtain ⟨a2, len2, cap2, rfl⟩ := okWide_slice Tryd.underlying45 (hval 2 45 v2 rfl rfl)
  have k2 := h2
  have lt2 : ∀ x ∈ p2, x.block < W.heap.size := by obtain ⟨m, hm⟩ := k2; exact DataW.trod_lt m _ _ _ hm
  obtain ⟨z2, w2⟩ := open_acts h2
  clear hA0 hval0
  refine (sourceGives_law a0 w0 a1 w1 _ z2 w2 (tab_of_laid hL)).mono fun e W' ⟨he, hon⟩ => ?_
  subst he
  have bel : Below W.heap.size W W' := hon.below (fun x hx => by cases hx) (Nat.le_refl _)
  exact ⟨_, rfl, _, _, _, [], _, [], hW', trodAll_mk1 (shut_bool Tryd.underlying4 _), (trodAll_cons_mk (shut_int Tryd.underlying44 w0) (trodAll_cons_mk (shut_int Tryd.underlying44 w1) (trodAll_cons_mk (Below.trod laidOut_all (by kernel_rfl) (of_decide_eq_true (by kernel_rfl)) k2 bel lt2) trodAll_mk0))), rfl, bel.frame _, fun h => by cases h⟩

theorem over_sourceGives : Rows.sourceGivesRow.holds Tryd.pinned (OpenSpec.ofChange Rows.sourceGivesSpec) :=
  OpenClaim.holds_of_wide 7 Tryd.f7 rfl rfl rfl rfl rfl rfl rfl ⟨rfl, rfl, rfl, rfl, rfl⟩ rfl rfl rfl rfl rfl (by kernel_rfl) Tryd.func7 (by kernel_rfl)
    (of_decide_eq_true (by kernel_rfl)) (by unfold Func.isWrapper; first | (rw [if_pos (by decide +kernel)]; kernel_rfl) | (rw [if_neg (by decide +kernel)]; exact ⟨rfl, rfl⟩))
    (fun os started H enc _ => lifted_sourceGives os started H enc)

theorem sourceGives_proved : Rows.SourceGivesCardSaid :=
  Claim7.holds_tied_plain_at .later [] [.data, .data, .data] true (true, "30e5146775801ffcf6668b580fa8080efb826836bfc0b918f6a7e3488418aba9") false
    over_sourceGives (fun _ h => by cases h) (by kernel_rfl) (fun _ h => by cases h) sourceGives_row_tie rfl ⟨rfl, rfl⟩ (by kernel_rfl) rfl
    (fun f fn hf hfn => by
      obtain rfl : f = 7 := Option.some.inj ((show Tryd.prog.funcNamed "snicket/snicketlaw14.SourceGives" = some 7 by kernel_rfl).symm.trans hf) |>.symm
      obtain rfl : fn = Tryd.f7 := (Option.some.inj (Tryd.func7.symm.trans hfn)).symm
      exact ⟨by kernel_rfl, fun j t ht => by
        rw [Tryd.params7] at ht
        have hm : t ∈ [44, 44, 45] := by simpa using Array.mem_of_getElem? ht
        have hall : ([44, 44, 45].all fun u => !Tryd.prog.wantsStandIn u) = true := by kernel_rfl
        exact (show Tryd.prog.wantsStandIn t = false by simpa using List.all_eq_true.1 hall t hm)⟩)
    (by kernel_rfl)
#print axioms sourceGives_proved
end Go.Proofs.YtjkgmkkhjpcngaaDoor

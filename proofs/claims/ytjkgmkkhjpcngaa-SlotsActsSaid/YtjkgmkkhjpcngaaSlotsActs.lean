/-
  SlotsActs: whatever is begun, heard, confirmed and erased, each answer, and which pair stands where, are what the chapter says. Proved for every input; no condition.
-/
import Derived.Test.YtjkgmkkhjpcngaaRows
import Derived.Test.YtjkgmkkhjpcngaaSo9
import Derived.Test.YtjkgmkkhjpcngaaOpen
namespace Go.Proofs.Ytjkgmkkhjpcngaa
open Go.RowKit Go.Deep Go.ChangeShapes Go.WideShapes Go.ChangeAt

section
variable {H : Type} {enc : TypeId × Value → H} {w : World} {base : Nat} {spare : Nat → Bool} {held : Bool}
theorem list_four {α : Type} {l : List α} (h : l.length = 4) : ∃ a b c d, l = [a, b, c, d] := by
  match l, h with
  | [a, b, c, d], _ => exact ⟨a, b, c, d, rfl⟩
theorem u16_in {n : Int} (h : (Lit.int .u16 n).wf = true) : 0 ≤ n ∧ n ≤ 65535 := by
  simp only [Lit.wf, Bool.and_eq_true, decide_eq_true_eq] at h
  have e1 : IntKind.u16.min = 0 := rfl
  have e2 : IntKind.u16.max = 65535 := rfl
  omega
theorem dec_act {n : Nat} {cs : List Value} {y : DataW H × List MemPlace} (h : DataW.trod enc Try.prog w base spare held n 60 cs = some y) : ∃ p, acC p = cs ∧ (0 ≤ p.2.2.2 ∧ p.2.2.2 ≤ 65535) := by
  obtain ⟨xs, m, _, _, hl, hx, hf⟩ := DataW.trod_struct Try.underlying60 h
  rw [show Try.prog.cellsOf 60 = 4 from by kernel_rfl] at hl
  obtain ⟨a, b, c, d, rfl⟩ := list_four hl
  have h0 := hf 0 _ rfl
  have h1 := hf 1 _ rfl
  have h2 := hf 2 _ rfl
  have h3 := hf 3 _ rfl
  simp only [List.getElem_toArray, List.getElem_cons_zero, List.getElem_cons_succ, show Try.prog.cellsOf 5 = 1 from by kernel_rfl, show Try.prog.cellsOf 52 = 1 from by kernel_rfl, show Try.prog.cellsOf 2 = 1 from by kernel_rfl, show Try.prog.cellsOf 58 = 1 from by kernel_rfl] at h0 h1 h2 h3
  rw [List.getElem?_eq_getElem (by rw [hx]; decide)] at h0 h1 h2 h3
  obtain ⟨z0, e0, _, _⟩ := DataW.trod_int Try.underlying5 h0
  obtain ⟨z1, e1, _, _⟩ := DataW.trod_int Try.underlying52 h1
  obtain ⟨z2, e2, _, _⟩ := DataW.trod_int Try.underlying2 h2
  obtain ⟨z3, e3, _, b3⟩ := DataW.trod_int Try.underlying58 h3
  simp at e0 e1 e2 e3
  exact ⟨(z0, z1, z2, z3), by rw [e0, e1, e2, e3]; rfl, u16_in b3⟩
theorem open_acts {A : Option Addr} {len cap : Nat} {d : DataW H} {ps : List MemPlace} (h : DataW.Trod enc Try.prog w base spare held 51 (.slice A len cap) d ps) : ∃ l, RdS 4 acC w [] (.slice A len cap) l ∧ ∀ p ∈ l, 0 ≤ p.2.2.2 ∧ p.2.2.2 ≤ 65535 :=
  rds_of_trod Try.underlying51 (by kernel_rfl) (by omega) h fun _ _ _ hy => dec_act hy
end
theorem slotsActs_law (v : Value) (l : List Ac) {w : World} (hv : RdS 4 acC w [] v l ∧ ∀ x ∈ l, 0 ≤ x.2.2.2 ∧ x.2.2.2 ≤ 65535) (a : Int) (_ : (Lit.int .u32 a).wf = true) (b : Int) (_ : (Lit.int .i64 b).wf = true) :
    Calls Try.prog 5 #[v, .int .u32 a, .int .i64 b] w fun e w' => e = .returned (.bool true) ∧ Only [] w w' := slotsActs_walk v l a b w hv.1 hv.2

theorem own_slotsActs : ownKnob Try.prog.godebug = none := by kernel_rfl
theorem laidOut_slotsActs : laidOutB Try.prog = true := by kernel_rfl

set_option maxRecDepth 100000 in
theorem lifted_slotsActs (os : Os) (started : os.Started) (H : Type) (enc : TypeId × Value → H) :
    ReturnsInHanded {} Try.checked os 5 .any (Rows.slotsActsSpec.pre6 enc Try.prog Try.f5 Rows.slotsActsRow.domain false) (Rows.slotsActsSpec.post enc Try.prog Try.f5 false true false false) := by
  refine returnsInHanded_of_change (C := Try.checked) own_slotsActs started (by kernel_rfl) Try.func5
    (ChangeSpec.witness6 (enc := enc) (C := Try.checked) false ⟨#[], #[.slice none 0 0, .int .u32 0, .int .i64 0], []⟩ 8 (by kernel_rfl) (by kernel_rfl) (by kernel_rfl) (by kernel_rfl)) ?_
  intro W base args ds gs before hval0 hW hcnd _
  have hval : ∀ (j : Nat) t v, Try.f5.params[j]? = some t → args[j]? = some v → Value.okWide Try.prog W .any base t v := hval0
  have hW' := hW
  obtain ⟨p, q, hA0, hV, rfl, hfz, hnd⟩ := hW
  have hA : DataW.TrodAll enc Try.prog W 0 (fun _ => true) true Try.f5.params.toList args.toList ds p := hA0
  rw [Try.params5] at hA hval
  obtain ⟨v0, vs0, d0, ds0, p0, q0, hargs, rfl, rfl, h0, r0⟩ := trodAll_cons hA
  obtain ⟨v1, vs1, d1, ds1, p1, q1, rfl, rfl, rfl, h1, r1⟩ := trodAll_cons r0
  obtain ⟨v2, vs2, d2, ds2, p2, q2, rfl, rfl, rfl, h2, r2⟩ := trodAll_cons r1
  obtain ⟨rfl, rfl, rfl⟩ := trodAll_nil r2
  obtain rfl : args = #[v0, v1, v2] := by cases args; simp_all
  obtain ⟨rfl, rfl⟩ := trodVars_none hV
  obtain ⟨a0, len0, cap0, rfl⟩ := okWide_slice Try.underlying51 (hval 0 51 v0 rfl rfl)
  have k0 := h0
  have lt0 : ∀ x ∈ p0, x.block < W.heap.size := by obtain ⟨m, hm⟩ := k0; exact DataW.trod_lt m _ _ _ hm
  obtain ⟨z0, w0⟩ := open_acts h0
  obtain ⟨a1, rfl, rfl, rfl, w1⟩ := open_int Try.underlying52 (hval 1 52 v1 rfl rfl) h1
  obtain ⟨a2, rfl, rfl, rfl, w2⟩ := open_int Try.underlying2 (hval 2 2 v2 rfl rfl) h2
  clear hA0 hval0
  refine (slotsActs_law _ z0 w0 a1 w1 a2 w2).mono fun e W' ⟨he, hon⟩ => ?_
  subst he
  have bel : Below W.heap.size W W' := hon.below (fun x hx => by cases hx) (Nat.le_refl _)
  exact ⟨_, rfl, _, _, _, [], _, [], hW', trodAll_mk1 (shut_bool Try.underlying4 _), (trodAll_cons_mk (Below.trod laidOut_slotsActs (by kernel_rfl) (of_decide_eq_true (by kernel_rfl)) k0 bel lt0) (trodAll_cons_mk (shut_int Try.underlying52 w1) (trodAll_cons_mk (shut_int Try.underlying2 w2) trodAll_mk0))), rfl, bel.frame _, fun h => by cases h⟩

theorem over_slotsActs : Rows.slotsActsRow.holds Try.pinned (OpenSpec.ofChange Rows.slotsActsSpec) :=
  OpenClaim.holds_of_wide 5 Try.f5 rfl rfl rfl rfl rfl rfl rfl ⟨rfl, rfl, rfl, rfl, rfl⟩ rfl rfl rfl rfl rfl (by kernel_rfl) Try.func5 (by kernel_rfl)
    (of_decide_eq_true (by kernel_rfl)) (by unfold Func.isWrapper; first | (rw [if_pos (by decide +kernel)]; kernel_rfl) | (rw [if_neg (by decide +kernel)]; exact ⟨rfl, rfl⟩))
    (fun os started H enc _ => lifted_slotsActs os started H enc)

theorem slotsActs_proved : Rows.SlotsActsSaid := over_slotsActs
#print axioms slotsActs_proved
end Go.Proofs.Ytjkgmkkhjpcngaa

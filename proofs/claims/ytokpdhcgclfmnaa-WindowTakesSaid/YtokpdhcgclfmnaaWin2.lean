/-
  Contracts of window.New, advance, Would, Take, Top, Missing, Clone, by walking.
-/
import Derived.Test.YtokpdhcgclfmnaaWin
import Derived.ScopeJumps
import Derived.Deep.OwnRows
namespace Go.Proofs.Ytokpdhcgclfmnaa
open Go.RowKit Go.Deep

theorem WinIs.set_top {w : World} {b : Nat} {B : Nat → Bool} {top : Nat} {sm : Bool} (h : WinIs w b B top sm) (t : Nat) (ht : t < 18446744073709551616) : WinIs (w.setCell ⟨b, 32, none⟩ (.int .u64 (t : Int))) b B t sm := by
  obtain ⟨ws, h, hB⟩ := h
  refine ⟨ws, ⟨?_, h.2.1, h.2.2.1, ht⟩, hB⟩
  have h' := h.1.set_ 32 (.int .u64 (t : Int))
  have e : (winCells ws top sm).toArray.setIfInBounds 32 (.int .u64 (t : Int)) = (winCells ws t sm).toArray := by
    simp [winCells, List.set_append_right, h.2.1]
  rw [e] at h'
  exact h'
theorem WinIs.set_some {w : World} {b : Nat} {B : Nat → Bool} {top : Nat} {sm : Bool} (h : WinIs w b B top sm) (s : Bool) : WinIs (w.setCell ⟨b, 33, none⟩ (.bool s)) b B top s := by
  obtain ⟨ws, h, hB⟩ := h
  refine ⟨ws, ⟨?_, h.2.1, h.2.2.1, h.2.2.2⟩, hB⟩
  have h' := h.1.set_ 33 (.bool s)
  have e : (winCells ws top sm).toArray.setIfInBounds 33 (.bool s) = (winCells ws top s).toArray := by
    simp [winCells, List.set_append_right, h.2.1]
  rw [e] at h'
  exact h'
theorem WinIs.top_ {w : World} {b : Nat} {B : Nat → Bool} {top : Nat} {sm : Bool} (h : WinIs w b B top sm) : w.cell? ⟨b, 32, none⟩ = some (.int .u64 (top : Int)) := by
  obtain ⟨ws, h, _⟩ := h
  exact win_top h
theorem WinIs.some_ {w : World} {b : Nat} {B : Nat → Bool} {top : Nat} {sm : Bool} (h : WinIs w b B top sm) : w.cell? ⟨b, 33, none⟩ = some (.bool sm) := by
  obtain ⟨ws, h, _⟩ := h
  exact win_some h
theorem WinIs.frozen {w : World} {b : Nat} {B : Nat → Bool} {top : Nat} {sm : Bool} (h : WinIs w b B top sm) : ∀ i, w.frozen? ⟨b, i, none⟩ = false := by
  obtain ⟨ws, h, _⟩ := h
  exact h.1.frozen
theorem winCells_size (ws : List Nat) (top : Nat) (sm : Bool) (h : ws.length = 32) : (winCells ws top sm).length = 34 := by simp [winCells, h]
theorem WinIs.isSome {w : World} {b : Nat} {B : Nat → Bool} {top : Nat} {sm : Bool} (h : WinIs w b B top sm) (j : Nat) (hj : j < 34) : (w.cell? ⟨b, j, none⟩).isSome = true := by
  obtain ⟨ws, h, _⟩ := h
  rw [h.1.cell]
  have := winCells_size ws top sm h.2.1
  simp [this, hj]
theorem WinIs.drew {w : World} {b : Nat} {B : Nat → Bool} {top : Nat} {sm : Bool} (h : WinIs w b B top sm) : WinIs w.drew b B top sm := h

theorem win_new (w : World) :
    Calls Try.prog 24 #[] w fun e w' => ∃ b, e = .returned (.pointer (some ⟨b, 0, none⟩)) ∧ WinIs w' b (fun _ => false) 0 false ∧ Only [] w w' ∧ w.heap.size ≤ b := by
  go_enter Try.func24, Try.ntmps24
  go_wp2
  go_ret
  refine ⟨w.heap.size, rfl, ⟨List.replicate 32 0, ⟨?_, rfl, by simp, by omega⟩, ?_⟩, ?_, Nat.le_refl _⟩
  · exact Blk.new w _ _
  · intro i hi
    unfold wbit
    have e : (List.replicate 32 0).getD (i / 64) 0 = 0 := by
      rw [List.getD_eq_getElem?_getD, List.getElem?_replicate]
      split <;> rfl
    rw [e, Nat.zero_testBit]
  · exact (Only.refl _ _).alloc _

theorem win_would_nil (w : World) (c : Nat) :
    Calls Try.prog 30 #[.pointer none, .int .u64 c] w fun e w' => e = .returned (.int .i64 1) ∧ w = w' := by
  go_enter Try.func30, Try.ntmps30
  go_wp2
  go_ret
  exact ⟨rfl, rfl⟩

/-- What Would tells. -/
def wouldV (B : Nat → Bool) (top : Nat) (sm : Bool) (c : Nat) : Int :=
  if 18446744073709543423 ≤ c then 10 else if sm = false ∨ top < c then 0 else if 2048 ≤ top - c ∨ B (c % 2048) = true then 9 else 0

theorem win_would (w : World) (b : Nat) (B : Nat → Bool) (top : Nat) (sm : Bool) (c : Nat) (hw : WinIs w b B top sm) (hc : c < 18446744073709551616) :
    Calls Try.prog 30 #[.pointer (some ⟨b, 0, none⟩), .int .u64 c] w fun e w' => e = .returned (.int .i64 (wouldV B top sm c)) ∧ w = w' := by
  have h1 := hw.top_
  have h2 := hw.some_
  have ht : top < 18446744073709551616 := by obtain ⟨ws, h, _⟩ := hw; exact h.2.2.2
  have HW := hide hw
  clear hw
  by_cases k1 : 18446744073709543423 ≤ c
  · have e : wouldV B top sm c = 10 := by unfold wouldV; rw [if_pos k1]
    rw [e]
    clear e
    have k1' : decide ((18446744073709543423 : Int) ≤ c) = true := by rw [decide_eq_true_iff]; omega
    clear k1
    go_enter Try.func30, Try.ntmps30
    go_wp2_with fail
    go_ret
    exact ⟨rfl, rfl⟩
  have k1' : decide ((18446744073709543423 : Int) ≤ c) = false := by rw [decide_eq_false_iff_not]; omega
  cases sm with
  | false =>
    have e : wouldV B top false c = 0 := by unfold wouldV; rw [if_neg k1, if_pos (.inl rfl)]
    rw [e]
    clear e k1
    go_enter Try.func30, Try.ntmps30
    go_wp2_with fail
    go_ret
    exact ⟨rfl, rfl⟩
  | true =>
    by_cases k2 : top < c
    · have e : wouldV B top true c = 0 := by unfold wouldV; rw [if_neg k1, if_pos (.inr k2)]
      rw [e]
      clear e k1
      have k2' : (top : Int) < c := by omega
      go_enter Try.func30, Try.ntmps30
      go_wp2_with fail
      go_ret
      exact ⟨rfl, rfl⟩
    have k2' : ¬ (top : Int) < c := by omega
    have k2'' : (c : Int) ≤ top := by omega
    by_cases k3 : 2048 ≤ top - c
    · have e : wouldV B top true c = 9 := by unfold wouldV; rw [if_neg k1, if_neg (by simp [k2]), if_pos (.inl k3)]
      rw [e]
      clear e k1 k2
      have k3' : (2048 : Int) ≤ top - c := by omega
      go_enter Try.func30, Try.ntmps30
      go_wp2_with fail
      go_ret
      exact ⟨rfl, rfl⟩
    have k3' : ¬ (2048 : Int) ≤ top - c := by omega
    cases hB : B (c % 2048) with
    | true =>
      have e : wouldV B top true c = 9 := by unfold wouldV; rw [if_neg k1, if_neg (by simp [k2]), if_pos (.inr hB)]
      rw [e]
      have HBB := hide hB
      clear e k1 k2 k3 hB
      go_enter Try.func30, Try.ntmps30
      go_wp2_with (go_at_call 38; refine (winis_has _ b B top true c HW.out hc).mono ?_; rw [HBB.out]; rintro e w' ⟨rfl, rfl⟩)
      go_ret
      exact ⟨rfl, rfl⟩
    | false =>
      have e : wouldV B top true c = 0 := by unfold wouldV; rw [if_neg k1, if_neg (by simp [k2]), if_neg (by simp [hB]; omega)]
      rw [e]
      have HBB := hide hB
      clear e k1 k2 k3 hB
      go_enter Try.func30, Try.ntmps30
      go_wp2_with (go_at_call 38; refine (winis_has _ b B top true c HW.out hc).mono ?_; rw [HBB.out]; rintro e w' ⟨rfl, rfl⟩)
      go_ret
      exact ⟨rfl, rfl⟩
end Go.Proofs.Ytokpdhcgclfmnaa

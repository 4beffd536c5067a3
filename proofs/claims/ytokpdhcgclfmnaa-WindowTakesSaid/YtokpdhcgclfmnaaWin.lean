/-
  Contracts of the window's functions, by walking.
-/
import Derived.Test.YtokpdhcgclfmnaaChecked
import Derived.Test.YtokpdhcgclfmnaaSl
import Derived.BigQuiet
import Derived.RegionTactic
import Derived.BigRegion
import Derived.Outline
import Derived.Deep.RegionHeld3
import Derived.Deep.DeepFit
import Derived.Deep.DeepMust
import Derived.WalkLawsBesides
import Derived.Laws.BitsAllLaws
import Derived.Laws.BitsLemmas
namespace Go.Proofs.Ytokpdhcgclfmnaa
open Go.RowKit

def winCells (ws : List Nat) (top : Nat) (sm : Bool) : List Value := ws.map (fun (n : Nat) => Value.int .u64 (n : Int)) ++ [.int .u64 (top : Int), .bool sm]

def WinAt (w : World) (b : Nat) (ws : List Nat) (top : Nat) (sm : Bool) : Prop :=
  Blk w b 64 (winCells ws top sm).toArray ∧ ws.length = 32 ∧ (∀ x ∈ ws, x < 18446744073709551616) ∧ top < 18446744073709551616

theorem win_word {w : World} {b : Nat} {ws : List Nat} {top : Nat} {sm : Bool} (h : WinAt w b ws top sm) {i : Nat} (hi : i < 32) : w.cell? ⟨b, i, none⟩ = some (.int .u64 (ws.getD i 0 : Nat)) := by
  rw [h.1.cell]
  have hi' : i < ws.length := by rw [h.2.1]; exact hi
  simp [winCells, List.getElem?_append_left, hi', List.getD_eq_getElem?_getD]
theorem win_top {w : World} {b : Nat} {ws : List Nat} {top : Nat} {sm : Bool} (h : WinAt w b ws top sm) : w.cell? ⟨b, 32, none⟩ = some (.int .u64 (top : Int)) := by
  rw [h.1.cell]
  simp [winCells, List.getElem?_append_right, h.2.1]
theorem win_some {w : World} {b : Nat} {ws : List Nat} {top : Nat} {sm : Bool} (h : WinAt w b ws top sm) : w.cell? ⟨b, 33, none⟩ = some (.bool sm) := by
  rw [h.1.cell]
  simp [winCells, List.getElem?_append_right, h.2.1]

/-- The bit of a counter's place. -/
def wbit (ws : List Nat) (i : Nat) : Bool := (ws.getD (i / 64) 0).testBit (i % 64)

theorem bit_and_one (x k : Nat) (hx : x < 18446744073709551616) : (bits .and .u64 ((x : Int) / 2 ^ k) 1 == 1) = x.testBit k := by
  have e1 : (x : Int) / 2 ^ k = ((x / 2 ^ k : Nat) : Int) := by push_cast; rfl
  have hlt : x / 2 ^ k < 18446744073709551616 := Nat.lt_of_le_of_lt (Nat.div_le_self _ _) hx
  have e2 := u64_and_nat (x / 2 ^ k) 1 hlt (by omega)
  rw [e1, show (1 : Int) = ((1 : Nat) : Int) by rfl, e2, Nat.testBit_eq_decide_div_mod_eq, Nat.and_one_is_mod]
  rw [Bool.eq_iff_iff]
  simp
  omega

theorem win_has (w : World) (b : Nat) (ws : List Nat) (top : Nat) (sm : Bool) (c : Nat) (hw : WinAt w b ws top sm) (hc : c < 18446744073709551616) :
    Calls Try.prog 38 #[.pointer (some ⟨b, 0, none⟩), .int .u64 c] w fun e w' => e = .returned (.bool (wbit ws (c % 2048))) ∧ w = w' := by
  have hi : c % 2048 / 64 < 32 := by omega
  have hcell := win_word hw hi
  unfold wbit
  have hxl : ws.getD (c % 2048 / 64) 0 < 18446744073709551616 := by
    rw [List.getD_eq_getElem?_getD, List.getElem?_eq_getElem (by rw [hw.2.1]; exact hi)]
    exact hw.2.2.1 _ (List.getElem_mem _)
  generalize ws.getD (c % 2048 / 64) 0 = x at hcell hxl
  have hi' : (c : Int) % 2048 / 64 < 32 := by omega
  have HX := hide hxl
  clear hw hxl
  go_enter Try.func38, Try.ntmps38
  go_wp2_with fail
  go_ret
  refine ⟨?_, rfl⟩
  have h := bit_and_one x (c % 64) HX.out
  have e : c % 2048 % 64 = c % 64 := by omega
  rw [e, ← h]
  rfl

/-- The window behind b: its bits, its top, whether it took any. -/
def WinIs (w : World) (b : Nat) (B : Nat → Bool) (top : Nat) (sm : Bool) : Prop := ∃ ws, WinAt w b ws top sm ∧ ∀ i, i < 2048 → wbit ws i = B i

theorem WinIs.only {S : List Nat} {w w' : World} {b top : Nat} {B : Nat → Bool} {sm : Bool} (h : WinIs w b B top sm) (ho : Only S w w') (hb : b ∉ S) : WinIs w' b B top sm := by
  obtain ⟨ws, h, hB⟩ := h
  exact ⟨ws, ⟨h.1.only ho hb, h.2⟩, hB⟩
theorem WinIs.lt {w : World} {b top : Nat} {B : Nat → Bool} {sm : Bool} (h : WinIs w b B top sm) : b < w.heap.size := by
  obtain ⟨ws, h, _⟩ := h
  exact h.1.lt
theorem WinIs.ext {w : World} {b top : Nat} {B B' : Nat → Bool} {sm : Bool} (h : WinIs w b B top sm) (hB : ∀ i, i < 2048 → B i = B' i) : WinIs w b B' top sm := by
  obtain ⟨ws, h, h2⟩ := h
  exact ⟨ws, h, fun i hi => (h2 i hi).trans (hB i hi)⟩

theorem win_setcell (ws : List Nat) (top : Nat) (sm : Bool) (i v : Nat) (h : i < ws.length) : (winCells ws top sm).toArray.setIfInBounds i (.int .u64 (v : Int)) = (winCells (ws.set i v) top sm).toArray := by
  simp [winCells, List.set_append_left _ _ (show i < (ws.map fun (n : Nat) => Value.int .u64 (n : Int)).length by simpa using h), List.map_set]

theorem two_pow_lt (k : Nat) (h : k < 64) : 2 ^ k < 18446744073709551616 := by
  have : 2 ^ k ≤ 2 ^ 63 := Nat.pow_le_pow_right (by omega) (by omega)
  omega
theorem wrap_two_pow (k : Nat) (h : k < 64) : IntKind.u64.wrap (2 ^ k) = ((2 ^ k : Nat) : Int) := by
  have h1 := two_pow_lt k h
  have e : ((2 : Int) ^ k) = ((2 ^ k : Nat) : Int) := by push_cast; rfl
  rw [e, IntKind.wrap_u64]
  generalize 2 ^ k = p at h1
  omega

theorem getD_set_nat (ws : List Nat) (i j v : Nat) (h : i < ws.length) : (ws.set i v).getD j 0 = if i = j then v else ws.getD j 0 := by
  by_cases hij : i = j
  · subst hij; simp [List.getD_eq_getElem?_getD, h]
  · simp [List.getD_eq_getElem?_getD, hij]

theorem wbit_or (ws : List Nat) (q i x : Nat) (hx : ws.getD (q / 64) 0 = x) (h : q / 64 < ws.length) : wbit (ws.set (q / 64) (x ||| 2 ^ (q % 64))) i = (decide (i = q) || wbit ws i) := by
  unfold wbit
  rw [getD_set_nat _ _ _ _ h]
  by_cases h1 : q / 64 = i / 64
  · rw [if_pos h1, Nat.testBit_or, Nat.testBit_two_pow, ← h1, hx, Bool.or_comm]
    congr 1
    rw [decide_eq_decide]
    omega
  · rw [if_neg h1, decide_eq_false (by rintro rfl; exact h1 rfl)]
    rfl
theorem wbit_andNot (ws : List Nat) (q i x : Nat) (hx : ws.getD (q / 64) 0 = x) (h : q / 64 < ws.length) : wbit (ws.set (q / 64) (x &&& (18446744073709551615 - 2 ^ (q % 64)))) i = (!decide (i = q) && wbit ws i) := by
  unfold wbit
  rw [getD_set_nat _ _ _ _ h]
  by_cases h1 : q / 64 = i / 64
  · have e : 18446744073709551615 - 2 ^ (q % 64) = 2 ^ 64 - (2 ^ (q % 64) + 1) := by omega
    rw [if_pos h1, Nat.testBit_and, e, Nat.testBit_two_pow_sub_succ (two_pow_lt _ (Nat.mod_lt _ (by omega))), Nat.testBit_two_pow, ← h1, hx, Bool.and_comm, decide_eq_true (Nat.mod_lt i (by omega)), Bool.true_and]
    congr 2
    rw [decide_eq_decide]
    omega
  · rw [if_neg h1, decide_eq_false (by rintro rfl; exact h1 rfl)]
    rfl

theorem winis_has (w : World) (b : Nat) (B : Nat → Bool) (top : Nat) (sm : Bool) (c : Nat) (hw : WinIs w b B top sm) (hc : c < 18446744073709551616) :
    Calls Try.prog 38 #[.pointer (some ⟨b, 0, none⟩), .int .u64 c] w fun e w' => e = .returned (.bool (B (c % 2048))) ∧ w = w' := by
  obtain ⟨ws, hw, hB⟩ := hw
  rw [← hB _ (Nat.mod_lt _ (by omega))]
  exact win_has w b ws top sm c hw hc

theorem win_set (w : World) (b : Nat) (B : Nat → Bool) (top : Nat) (sm : Bool) (c : Nat) (hw : WinIs w b B top sm) (hc : c < 18446744073709551616) :
    Calls Try.prog 37 #[.pointer (some ⟨b, 0, none⟩), .int .u64 c] w fun e w' => e = .returned (.tuple #[]) ∧ WinIs w' b (fun i => decide (i = c % 2048) || B i) top sm ∧ Only [b] w w' := by
  obtain ⟨ws, hw, hB⟩ := hw
  have hi : c % 2048 / 64 < 32 := by omega
  have hcell := win_word hw hi
  have hxl : ws.getD (c % 2048 / 64) 0 < 18446744073709551616 := by
    rw [List.getD_eq_getElem?_getD, List.getElem?_eq_getElem (by rw [hw.2.1]; exact hi)]
    exact hw.2.2.1 _ (List.getElem_mem _)
  have HW := hide hw
  have HB := hide hB
  have hfz := hw.1.frozen
  generalize hx : ws.getD (c % 2048 / 64) 0 = x at hcell hxl
  have hi' : (c : Int) % 2048 / 64 < 32 := by omega
  have HX := hide hxl
  have HXE := hide hx
  clear hw hxl hx hB
  go_enter Try.func37, Try.ntmps37
  go_wp2_with fail
  go_region
  go_wp2_with fail
  go_end0
  rw [wrap_two_pow (c % 64) (Nat.mod_lt _ (by omega)), u64_or_nat x (2 ^ (c % 64)) HX.out (two_pow_lt _ (Nat.mod_lt _ (by omega)))]
  have hk : c % 64 = c % 2048 % 64 := by omega
  have hv : x ||| 2 ^ (c % 64) < 18446744073709551616 := by have h1 := two_pow_lt (c % 64) (Nat.mod_lt _ (by omega)); exact Nat.or_lt_two_pow (n := 64) HX.out h1
  refine ⟨rfl, ⟨ws.set (c % 2048 / 64) (x ||| 2 ^ (c % 64)), ⟨?_, by rw [List.length_set]; exact HW.out.2.1, fun y hy => ?_, HW.out.2.2.2⟩, fun i hi2 => ?_⟩, ?_⟩
  · have h := (HW.out.1.set_ (c % 2048 / 64) (.int .u64 ((x ||| 2 ^ (c % 64) : Nat) : Int))).drew
    rw [win_setcell ws top sm _ _ (by rw [HW.out.2.1]; exact hi)] at h
    exact h
  · rcases List.mem_or_eq_of_mem_set hy with h | h
    · exact HW.out.2.2.1 y h
    · rw [h]; exact hv
  · simp only []
    rw [← HB.out i hi2, hk, wbit_or ws (c % 2048) i x HXE.out (by rw [HW.out.2.1]; exact hi)]
  · exact ((Only.refl _ _).setCell (.inl (by simp)) _).drew

theorem win_unset (w : World) (b : Nat) (B : Nat → Bool) (top : Nat) (sm : Bool) (c : Nat) (hw : WinIs w b B top sm) (hc : c < 18446744073709551616) :
    Calls Try.prog 40 #[.pointer (some ⟨b, 0, none⟩), .int .u64 c] w fun e w' => e = .returned (.tuple #[]) ∧ WinIs w' b (fun i => !decide (i = c % 2048) && B i) top sm ∧ Only [b] w w' := by
  obtain ⟨ws, hw, hB⟩ := hw
  have hi : c % 2048 / 64 < 32 := by omega
  have hcell := win_word hw hi
  have hxl : ws.getD (c % 2048 / 64) 0 < 18446744073709551616 := by
    rw [List.getD_eq_getElem?_getD, List.getElem?_eq_getElem (by rw [hw.2.1]; exact hi)]
    exact hw.2.2.1 _ (List.getElem_mem _)
  have HW := hide hw
  have HB := hide hB
  have hfz := hw.1.frozen
  generalize hx : ws.getD (c % 2048 / 64) 0 = x at hcell hxl
  have hi' : (c : Int) % 2048 / 64 < 32 := by omega
  have HX := hide hxl
  have HXE := hide hx
  clear hw hxl hx hB
  go_enter Try.func40, Try.ntmps40
  go_wp2_with fail
  go_region
  go_wp2_with fail
  go_end0
  rw [wrap_two_pow (c % 64) (Nat.mod_lt _ (by omega)), u64_andNot_nat x (2 ^ (c % 64)) HX.out (two_pow_lt _ (Nat.mod_lt _ (by omega)))]
  have hk : c % 64 = c % 2048 % 64 := by omega
  have hv : x &&& (18446744073709551615 - 2 ^ (c % 64)) < 18446744073709551616 := Nat.lt_of_le_of_lt Nat.and_le_left HX.out
  refine ⟨rfl, ⟨ws.set (c % 2048 / 64) (x &&& (18446744073709551615 - 2 ^ (c % 64))), ⟨?_, by rw [List.length_set]; exact HW.out.2.1, fun y hy => ?_, HW.out.2.2.2⟩, fun i hi2 => ?_⟩, ?_⟩
  · have h := (HW.out.1.set_ (c % 2048 / 64) (.int .u64 ((x &&& (18446744073709551615 - 2 ^ (c % 64)) : Nat) : Int))).drew
    rw [win_setcell ws top sm _ _ (by rw [HW.out.2.1]; exact hi)] at h
    exact h
  · rcases List.mem_or_eq_of_mem_set hy with h | h
    · exact HW.out.2.2.1 y h
    · rw [h]; exact hv
  · simp only []
    rw [← HB.out i hi2, hk, wbit_andNot ws (c % 2048) i x HXE.out (by rw [HW.out.2.1]; exact hi)]
  · exact ((Only.refl _ _).setCell (.inl (by simp)) _).drew
end Go.Proofs.Ytokpdhcgclfmnaa

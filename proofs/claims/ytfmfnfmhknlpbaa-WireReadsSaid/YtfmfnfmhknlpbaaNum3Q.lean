/-
  num.ReadHex: the plain answer, and the contract. Condition: the text is no longer than a slice may be.
-/
import Derived.Test.YtfmfnfmhknlpbaaNum2Q
namespace Go.Proofs.Ytfmfnfmhknlpbaa
open Go.RowKit Go.Deep

theorem num_read (w : World) (s : ByteArray) (hs : s.size ≤ 1000000) : Calls Try.prog 108 #[.string s] w (NumRPost (numR s.data.toList) w) := by
  rcases Nat.eq_zero_or_pos s.size with h | h
  · exact num_read_empty w s h
  · exact num_read_some w s (by unfold maxLen; omega) h

def hexB (c : UInt8) : Bool := decide (0 ≤ signV c.toNat)
def nib (c : UInt8) : Nat := (signV c.toNat).toNat
def hexP : List UInt8 → List UInt8
  | a :: b :: r => UInt8.ofNat (16 * nib a + nib b) :: hexP r
  | _ => []
def hexR (l : List UInt8) : List UInt8 × Nat := if l.all hexB = false then ([], 3) else if l.length % 2 = 1 then ([], 4) else (hexP l, 0)
theorem nib_lt (c : UInt8) : nib c < 16 := by unfold nib signV; split <;> (try split) <;> omega
theorem sign_range (r : Int) : -1 ≤ signV r ∧ signV r ≤ 15 := by unfold signV; split <;> (try split) <;> omega
theorem sign_nib {c : UInt8} (h : hexB c = true) : signV c.toNat = (nib c : Nat) := by
  unfold hexB at h
  unfold nib
  have := of_decide_eq_true h
  omega
theorem sign_low {r : Int} (h : 0 ≤ signV r) : 48 ≤ r ∧ r ≤ 102 := by unfold signV at h; split at h <;> (try split at h) <;> omega
def Hexs (s : ByteArray) (k : Nat) : Prop := ∀ i (h : i < s.size), i < k → hexB s[i] = true
theorem hexs_succ {s : ByteArray} {k : Nat} (h : Hexs s k) (hk : k < s.size) (hd : hexB s[k] = true) : Hexs s (k + 1) := by
  intro i hi hik
  by_cases e : i = k
  · subst e; exact hd
  · exact h i hi (by omega)
theorem decode_hex (s : ByteArray) (k : Nat) (h : k < s.size) (hd : hexB s[k] = true) : Utf8.decode s k = (s[k].toNat, 1) := by
  refine decode_ascii s k h ?_
  have := sign_low (of_decide_eq_true hd)
  omega
theorem decode_nohex (s : ByteArray) (k : Nat) (h : k < s.size) (hd : hexB s[k] = false) : signV (Utf8.decode s k).1 < 0 := by
  by_cases ha : s[k].toNat < 128
  · rw [decode_ascii s k h ha]
    have := of_decide_eq_false hd
    simp only
    omega
  · have h1 := (decode_high s k h (by omega)).1
    by_cases h2 : 0 ≤ signV (Utf8.decode s k).1
    · have := sign_low h2
      omega
    · omega
theorem hexR_bad (s : ByteArray) (i : Nat) (h : i < s.size) (hd : hexB s[i] = false) : hexR s.data.toList = ([], 3) := by
  unfold hexR
  rw [if_pos]
  rw [List.all_eq_false]
  exact ⟨s[i], (by rw [Array.mem_toList_iff]; exact Array.getElem_mem (by simpa using h)), by simp [hd]⟩
theorem hexs_all {s : ByteArray} (h : Hexs s s.size) : s.data.toList.all hexB = true := by
  rw [List.all_eq_true]
  intro x hx
  obtain ⟨i, hi, rfl⟩ := List.getElem_of_mem hx
  exact h i (by simpa using hi) (by simpa using hi)
theorem hexR_odd {s : ByteArray} (h : Hexs s s.size) (ho : s.size % 2 = 1) : hexR s.data.toList = ([], 4) := by
  unfold hexR
  rw [if_neg (by rw [hexs_all h]; simp), if_pos (by rw [Array.length_toList]; exact ho)]
theorem hexR_even {s : ByteArray} (h : Hexs s s.size) (ho : s.size % 2 = 0) : hexR s.data.toList = (hexP s.data.toList, 0) := by
  unfold hexR
  rw [if_neg (by rw [hexs_all h]; simp), if_neg (by rw [Array.length_toList]; show ¬ s.size % 2 = 1; omega)]
theorem hexP_append : ∀ (l m : List UInt8), l.length % 2 = 0 → hexP (l ++ m) = hexP l ++ hexP m
  | [], m, _ => rfl
  | [a], m, h => by simp at h
  | a :: b :: r, m, h => by
    simp only [List.cons_append, hexP]
    rw [hexP_append r m (by simp at h; omega)]
theorem hexP_take (s : ByteArray) (j : Nat) (h : 2 * j + 1 < s.size) : hexP (s.data.toList.take (2 * (j + 1))) = hexP (s.data.toList.take (2 * j)) ++ [UInt8.ofNat (16 * nib s[2 * j] + nib s[2 * j + 1])] := by
  have hl : s.data.toList.length = s.size := rfl
  have e : s.data.toList.take (2 * (j + 1)) = s.data.toList.take (2 * j) ++ [s[2 * j], s[2 * j + 1]] := by
    rw [show 2 * (j + 1) = 2 * j + 1 + 1 by omega, List.take_succ_eq_append_getElem (by omega), List.take_succ_eq_append_getElem (by omega), List.append_assoc]
    rfl
  rw [e, hexP_append _ _ (by rw [List.length_take]; omega)]
  rfl
/-- Handed back: bytes in a slice of the call's own, and a code. -/
def BytsPost (r : List UInt8 × Nat) (w : World) (e : Ending) (w' : World) : Prop :=
  ∃ v, e = .returned (.tuple #[v, .int .i64 r.2]) ∧ Only [] w w' ∧ ∀ N : List Nat, (∀ x ∈ N, x < w.heap.size) → Rd w' N v (ints .u8 (byts r.1))
theorem byts_nil {r : List UInt8 × Nat} {c : Nat} {w w' : World} (h : r = ([], c)) (ho : Only [] w w') : BytsPost r w (.returned (.tuple #[.slice none 0 0, .int .i64 c])) w' := by
  subst h; exact ⟨_, rfl, ho, fun N _ => Rd.nil w' N⟩
end Go.Proofs.Ytfmfnfmhknlpbaa

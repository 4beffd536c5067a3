/-
  num.Read: the plain answer, and the contract. Condition: the text is no longer than a slice may be.
-/
import Derived.Test.YtfmfnfmhknlpbaaZD
import Derived.Laws.RangeAny
namespace Go.Proofs.Ytfmfnfmhknlpbaa
open Go.RowKit Go.Deep

def digB (c : UInt8) : Bool := decide (48 ≤ c.toNat) && decide (c.toNat ≤ 57)
/-- On from u, digit by digit; none: too great. -/
def accN : List UInt8 → Nat → Option Nat
  | [], u => some u
  | c :: r, u => if 1844674407370955161 < u ∨ (u = 1844674407370955161 ∧ 5 < c.toNat - 48) then none else accN r (u * 10 + (c.toNat - 48))
/-- The number and the code of a text. -/
def numR (l : List UInt8) : Nat × Nat :=
  if l = [] then (0, 3) else if l.all digB = false then (0, 3) else if l.head? = some 48 ∧ 1 < l.length then (0, 3) else
    match accN l 0 with
    | none => (0, 5)
    | some u => (u, 0)
theorem accN_lt : ∀ (l : List UInt8) (u v : Nat), l.all digB = true → u < 18446744073709551616 → accN l u = some v → v < 18446744073709551616
  | [], u, v, _, hu, h => by simp [accN] at h; omega
  | c :: r, u, v, hd, hu, h => by
    rw [accN] at h
    split at h
    · cases h
    · rename_i hn
      simp only [List.all_cons, Bool.and_eq_true] at hd
      have h2 := hd.1
      unfold digB at h2
      simp only [Bool.and_eq_true, decide_eq_true_eq] at h2
      exact accN_lt r _ v hd.2 (by omega) h
theorem numR_lt (l : List UInt8) : (numR l).1 < 18446744073709551616 := by
  unfold numR
  split
  · decide
  · split
    · decide
    · split
      · decide
      · rename_i h1 h2 h3
        split
        · decide
        · rename_i u hu
          exact accN_lt l 0 u (by simpa using h2) (by decide) hu
def NumRPost (r : Nat × Nat) (w : World) (e : Ending) (w' : World) : Prop := e = .returned (.tuple #[.int .u64 r.1, .int .i64 r.2]) ∧ Only [] w w'
theorem numr {a b : Nat} {r : Nat × Nat} {w w' : World} (h : r = (a, b)) (ho : Only [] w w') : NumRPost r w (.returned (.tuple #[.int .u64 a, .int .i64 b])) w' := by
  subst h; exact ⟨rfl, ho⟩
theorem only_iter (w : World) (s : ByteArray) (p : Nat) : Only [] w (w.iter s p) := (Only.refl [] w).alloc _
theorem all_false (l : List UInt8) (i : Nat) (h : i < l.length) (hd : digB l[i] = false) : l.all digB = false := by
  rw [List.all_eq_false]
  exact ⟨l[i], List.getElem_mem h, by simp [hd]⟩
theorem all_true (l : List UInt8) (h : ∀ i (hi : i < l.length), digB l[i] = true) : l.all digB = true := by
  rw [List.all_eq_true]
  intro x hx
  obtain ⟨i, hi, rfl⟩ := List.getElem_of_mem hx
  exact h i hi
theorem empty_of (s : ByteArray) (h : s.size = 0) : s.data.toList = [] := by
  rw [List.eq_nil_iff_length_eq_zero, Array.length_toList]; exact h
theorem not_empty (s : ByteArray) (h : 0 < s.size) : s.data.toList ≠ [] := by
  intro e
  have : s.data.toList.length = 0 := by rw [e]; rfl
  rw [Array.length_toList] at this
  have h2 : s.data.size = s.size := rfl
  omega
theorem numR_empty (s : ByteArray) (h : s.size = 0) : numR s.data.toList = (0, 3) := by unfold numR; rw [if_pos (empty_of s h)]
theorem numR_bad (s : ByteArray) (i : Nat) (h : i < s.size) (hd : digB s[i] = false) : numR s.data.toList = (0, 3) := by
  unfold numR; rw [if_neg (not_empty s (by omega)), if_pos (all_false _ i (by simpa using h) hd)]
theorem numR_lead (s : ByteArray) (h : 1 < s.size) (hd : s[0].toNat = 48) : numR s.data.toList = (0, 3) := by
  have hl : s.data.toList.length = s.size := rfl
  have hh : s.data.toList.head? = some 48 := by
    rw [List.head?_eq_getElem?, List.getElem?_eq_getElem (by omega)]
    congr 1
    exact UInt8.toNat_inj.1 hd
  unfold numR
  split
  · rfl
  · split
    · rfl
    · rw [if_pos ⟨hh, by omega⟩]
theorem numR_go (s : ByteArray) (h : 0 < s.size) (hd : s.data.toList.all digB = true) (h0 : ¬ (s[0].toNat = 48 ∧ 1 < s.size)) :
    numR s.data.toList = match accN s.data.toList 0 with | none => (0, 5) | some u => (u, 0) := by
  have hl : s.data.toList.length = s.size := rfl
  unfold numR
  rw [if_neg (not_empty s h), if_neg (by simp [hd]), if_neg]
  rintro ⟨a, b⟩
  refine h0 ⟨?_, by omega⟩
  rw [List.head?_eq_getElem?, List.getElem?_eq_getElem (by omega)] at a
  simp only [Option.some.injEq] at a
  have : s[0] = 48 := a
  rw [this]
  rfl
end Go.Proofs.Ytfmfnfmhknlpbaa

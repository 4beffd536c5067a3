/-
  Plain words of term.Make: the sum of the parts' lengths, and when there is no text. No condition.
-/
import Derived.Test.YtfmfnfmhknlpbaaDoorJnQ
import Derived.Test.YtfmfnfmhknlpbaaDoorTm9Q
namespace Go.Proofs.YtfmfnfmhknlpbaaDoor
open Go.RowKit Go.Deep Go.Maps Go.WideMaps

theorem letD_at (k : Int) : letD.atKey (.int .i64 k) (.lit (.int .u8 0)) = .lit (.int .u8 ((letU k).toNat : Nat)) := by
  by_cases h : 1 ≤ k ∧ k ≤ 11
  · obtain ⟨h1, h2⟩ := h
    rcases (show k = 1 ∨ k = 2 ∨ k = 3 ∨ k = 4 ∨ k = 5 ∨ k = 6 ∨ k = 7 ∨ k = 8 ∨ k = 9 ∨ k = 10 ∨ k = 11 by omega) with rfl | rfl | rfl | rfl | rfl | rfl | rfl | rfl | rfl | rfl | rfl
    all_goals rfl
  · have e : letD = DataW.map (letL.map fun p => (Lit.int .i64 p.1, DataW.lit (.int .u8 p.2))) := by rfl
    have h0 : letU k = 0 := by
      unfold letU
      repeat rw [if_neg (by omega)]
    rw [e, h0]
    refine Go.WideAt.atKey_none _ fun p hp => ?_
    obtain ⟨q, hq, rfl⟩ := List.mem_map.1 hp
    intro e2
    injection e2 with _ e3
    apply h
    simp only [letL, List.mem_cons, List.not_mem_nil, or_false] at hq
    rcases hq with rfl | rfl | rfl | rfl | rfl | rfl | rfl | rfl | rfl | rfl | rfl
    all_goals (simp only at e3; omega)
theorem letter_of (k : Int) (hk : (Lit.int .i64 k).wf = true) (w : World) : Calls Tryd.prog 56 #[.int .i64 k] w fun e w' => e = .returned (.int .u8 ((letU k).toNat : Nat)) ∧ Only [] w w' :=
  (letter_any k hk w).mono fun e w' ⟨c, he, hat, ho⟩ => by
    rw [letD_at] at hat
    injection hat with h3
    injection h3 with _ h4
    rw [← h4] at he
    exact ⟨he, ho⟩
theorem let_zero {k : Int} (h : ¬ (1 ≤ k ∧ k ≤ 11)) : letU k = 0 := by
  unfold letU
  repeat rw [if_neg (by omega)]
theorem let_pos {k : Int} (h : 1 ≤ k ∧ k ≤ 11) : (((letU k).toNat : Nat) : Int) ≠ 0 := by
  obtain ⟨h1, h2⟩ := h
  rcases (show k = 1 ∨ k = 2 ∨ k = 3 ∨ k = 4 ∨ k = 5 ∨ k = 6 ∨ k = 7 ∨ k = 8 ∨ k = 9 ∨ k = 10 ∨ k = 11 by omega) with rfl | rfl | rfl | rfl | rfl | rfl | rfl | rfl | rfl | rfl | rfl
  all_goals decide
theorem kind_zero (p : ByteArray) : kindT p = 0 ↔ (parseV p).isSome = false := by
  unfold kindT
  cases h : parseV p with
  | none => simp
  | some nd =>
    obtain ⟨k, n, b, l⟩ := nd
    have := (read_make h).2.1
    simp
    omega
/-- The parts' lengths, one more for each. -/
def sumL : List ByteArray → Nat
  | [] => 0
  | a :: r => a.size + 1 + sumL r
theorem sumL_snoc (l : List ByteArray) (x : ByteArray) : sumL (l ++ [x]) = sumL l + (x.size + 1) := by
  induction l with
  | nil => simp [sumL]
  | cons a r ih => rw [List.cons_append, sumL, sumL, ih]; omega
theorem sumL_take (l : List ByteArray) (k : Nat) (hk : k < l.length) : sumL (l.take (k + 1)) = sumL (l.take k) + ((l.getD k ByteArray.empty).size + 1) := by
  have h : l.take (k + 1) = l.take k ++ [l.getD k ByteArray.empty] := by
    rw [List.take_succ_eq_append_getElem hk]
    simp [List.getElem?_eq_getElem hk]
  rw [h, sumL_snoc]
theorem sumL_mono (l : List ByteArray) (k : Nat) : sumL (l.take k) ≤ sumL l := by
  induction l generalizing k with
  | nil => simp
  | cons a r ih =>
    cases k with
    | zero => simp [sumL]
    | succ k => rw [List.take_succ_cons, sumL, sumL]; have := ih k; omega
theorem join_sum : ∀ l : List ByteArray, l ≠ [] → (joinL l).length + 1 = sumL l
  | [], h => absurd rfl h
  | [a], _ => by rw [joinL, sumL, sumL]; rfl
  | a :: b :: r, _ => by
    have h := join_sum (b :: r) (by simp)
    rw [joinL, sumL, List.length_append, List.length_cons, ← h]
    show a.size + _ + 1 = _
    omega
theorem join_le (l : List ByteArray) : (joinL l).length ≤ sumL l := by
  by_cases h : l = []
  · subst h; simp [joinL]
  · have := join_sum l h; omega
theorem sum_le (l : List ByteArray) : sumL l ≤ (joinL l).length + 1 := by
  by_cases h : l = []
  · subst h; simp [sumL]
  · have := join_sum l h; omega
theorem size_le (l : List ByteArray) (j : Nat) (hj : j < l.length) : (l.getD j ByteArray.empty).size ≤ sumL l := by
  have h := sumL_take l j hj
  have h2 := sumL_mono l (j + 1)
  omega
theorem sum_sort (k : Int) (l : List ByteArray) : sumL (sortV k l) = sumL l := by
  unfold sortV
  split
  · rename_i h
    obtain ⟨_, h2, _⟩ := h
    match l, h2 with
    | [a, b], _ => simp [sumL]; omega
  · rfl
section no
variable {k : Int} {n : Nat} {b : List UInt8} {l : List ByteArray}
theorem make_no (h : ¬ (1 ≤ k ∧ k ≤ 11 ∧ (numberedV k = true → allowedV k n = true) ∧ fitsV k l.length = true ∧ (∀ p ∈ l, (parseV p).isSome = true) ∧ (txtL k n b (sortV k l)).length ≤ 65536)) : makeV k n b l = ByteArray.empty := by
  unfold makeV; rw [if_neg h]
theorem make_kind (h : ¬ (1 ≤ k ∧ k ≤ 11)) : makeV k n b l = ByteArray.empty := make_no (by rintro ⟨h1, h2, _⟩; exact h ⟨h1, h2⟩)
theorem make_allow (h1 : numberedV k = true) (h2 : allowedV k n = false) : makeV k n b l = ByteArray.empty := make_no (by rintro ⟨_, _, h, _⟩; rw [h h1] at h2; cases h2)
theorem make_fits (h1 : fitsV k l.length = false) : makeV k n b l = ByteArray.empty := make_no (by rintro ⟨_, _, _, h, _⟩; rw [h] at h1; cases h1)
theorem make_big (h : 65536 < sumL l) : makeV k n b l = ByteArray.empty := make_no (by
  rintro ⟨h1, h11, _, hf, _, ht⟩
  by_cases hk : k ≤ 4
  · have hl := (fits4 h1 hk l).1 hf
    subst hl
    simp [sumL] at h
  · have h1 := txt_len5 k n b (sortV k l) (by omega)
    have h2 := sum_le (sortV k l)
    rw [sum_sort] at h2
    omega)
theorem make_data (hk : k = 4) (h : 65536 < b.length) : makeV k n b l = ByteArray.empty := make_no (by
  rintro ⟨_, _, _, _, _, ht⟩
  subst hk
  unfold txtL at ht
  rw [if_neg (by omega), if_pos rfl, List.length_cons, hexS_length] at ht
  omega)
theorem make_part {j : Nat} (hj : j < l.length) (h : kindT (l.getD j ByteArray.empty) = 0) : makeV k n b l = ByteArray.empty := make_no (by
  rintro ⟨_, _, _, _, hp, _⟩
  have := hp (l.getD j ByteArray.empty) (by rw [List.getD_eq_getElem?_getD, List.getElem?_eq_getElem hj]; exact List.getElem_mem hj)
  rw [(kind_zero _).1 h] at this
  exact Bool.noConfusion this)
theorem make_long (h : 65536 < (txtL k n b (sortV k l)).length) : makeV k n b l = ByteArray.empty := make_no (by rintro ⟨_, _, _, _, _, ht⟩; omega)
theorem make_is (h1 : 1 ≤ k ∧ k ≤ 11) (h2 : numberedV k = true → allowedV k n = true) (h3 : fitsV k l.length = true) (h4 : ∀ j, j < l.length → kindT (l.getD j ByteArray.empty) ≠ 0) (h5 : (txtL k n b (sortV k l)).length ≤ 65536) :
    makeV k n b l = bytesOf (txtL k n b (sortV k l)) := by
  unfold makeV
  refine if_pos ⟨h1.1, h1.2, h2, h3, fun p hp => ?_, h5⟩
  obtain ⟨j, hj, rfl⟩ := List.mem_iff_getElem.1 hp
  have h := h4 j hj
  rw [List.getD_eq_getElem?_getD, List.getElem?_eq_getElem hj, Option.getD_some] at h
  cases h' : (parseV l[j]).isSome with
  | true => rfl
  | false => exact absurd ((kind_zero _).2 h') h
end no
end Go.Proofs.YtfmfnfmhknlpbaaDoor

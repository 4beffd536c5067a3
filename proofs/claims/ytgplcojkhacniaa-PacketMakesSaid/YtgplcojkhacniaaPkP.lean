/-
  What is read of a packet that was made. Plain mathematics on lists.
-/
import Derived.Test.YtgplcojkhacniaaPkM2
import Derived.Test.YtgplcojkhacniaaPkReads
import Derived.Test.YtgplcojkhacniaaPkPad
namespace Go.Proofs.Ytgplcojkhacniaa

theorem mid_cut {α : Type} (P M R : List α) (a b : Nat) (ha : P.length = a) (hb : a + M.length = b) : ((P ++ (M ++ R)).take b).drop a = M := by
  subst ha hb
  rw [← List.append_assoc, show P.length + M.length = (P ++ M).length by simp, List.take_left' rfl, List.drop_left' rfl]

theorem mk4_len (n : Nat) : (mk4 n).length = 12 := rfl
theorem mk6_len (n : Nat) : (mk6 n).length = 8 := rfl
theorem bt_append {P R : List UInt8} {i : Nat} (h : i < P.length) : bt (P ++ R) i = bt P i := by
  unfold bt
  rw [List.getD_eq_getElem?_getD, List.getElem?_append_left h, ← List.getD_eq_getElem?_getD]

theorem nat_byte (n : Nat) (h : n < 256) : (UInt8.ofNat n).toNat = n := by
  rw [UInt8.toNat_ofNat']
  omega

theorem made4 (s d x z : List UInt8) (hs : s.length = 4) (hd : d.length = 4) (hx : 20 + x.length ≤ 2000) :
    bndV (mk4 (20 + x.length) ++ s ++ d ++ x ++ z) = (20, 20 + x.length, 0) ∧ srcV (mk4 (20 + x.length) ++ s ++ d ++ x ++ z) = s ∧ dstV (mk4 (20 + x.length) ++ s ++ d ++ x ++ z) = d ∧
      ((mk4 (20 + x.length) ++ s ++ d ++ x ++ z).take (20 + x.length)).drop 20 = x ∧ (mk4 (20 + x.length) ++ s ++ d ++ x ++ z).take (20 + x.length) = mk4 (20 + x.length) ++ s ++ d ++ x := by
  have hl : (mk4 (20 + x.length) ++ s ++ d ++ x ++ z).length = 20 + x.length + z.length := by simp only [List.length_append, mk4_len, hs, hd]
  have b : ∀ i, i < 12 → bt (mk4 (20 + x.length) ++ s ++ d ++ x ++ z) i = bt (mk4 (20 + x.length)) i := fun i hi => by
    simp only [List.append_assoc]
    exact bt_append hi
  have b0 : bt (mk4 (20 + x.length) ++ s ++ d ++ x ++ z) 0 = 69 := (b 0 (by omega)).trans rfl
  have b2 : bt (mk4 (20 + x.length) ++ s ++ d ++ x ++ z) 2 = (20 + x.length) / 256 := (b 2 (by omega)).trans (nat_byte _ (by omega))
  have b3 : bt (mk4 (20 + x.length) ++ s ++ d ++ x ++ z) 3 = (20 + x.length) % 256 := (b 3 (by omega)).trans (nat_byte _ (by omega))
  refine ⟨?_, ?_, ?_, ?_, ?_⟩
  · unfold bndV
    rw [hl, b0, b2, b3, if_neg (by omega), if_pos (by omega), if_neg (by omega), if_neg (by omega), if_neg (by omega)]
    refine Prod.ext (by simp only) (Prod.ext (by simp only; omega) rfl)
  · unfold srcV
    rw [b0, if_pos (by omega)]
    simp only [List.append_assoc]
    exact mid_cut _ _ _ _ _ rfl (by omega)
  · unfold dstV
    rw [b0, if_pos (by omega)]
    rw [show mk4 (20 + x.length) ++ s ++ d ++ x ++ z = (mk4 (20 + x.length) ++ s) ++ (d ++ (x ++ z)) by simp only [List.append_assoc]]
    exact mid_cut _ _ _ _ _ (by rw [List.length_append, mk4_len, hs]) (by omega)
  · rw [show mk4 (20 + x.length) ++ s ++ d ++ x ++ z = (mk4 (20 + x.length) ++ s ++ d) ++ (x ++ z) by simp only [List.append_assoc]]
    exact mid_cut _ _ _ _ _ (by rw [List.length_append, List.length_append, mk4_len, hs, hd]) rfl
  · exact List.take_left' (by simp only [List.length_append, mk4_len, hs, hd])

theorem made6 (s d x z : List UInt8) (hs : s.length = 16) (hd : d.length = 16) (hx : 40 + x.length ≤ 2000) :
    bndV (mk6 x.length ++ s ++ d ++ x ++ z) = (40, 40 + x.length, 0) ∧ srcV (mk6 x.length ++ s ++ d ++ x ++ z) = s ∧ dstV (mk6 x.length ++ s ++ d ++ x ++ z) = d ∧
      ((mk6 x.length ++ s ++ d ++ x ++ z).take (40 + x.length)).drop 40 = x ∧ (mk6 x.length ++ s ++ d ++ x ++ z).take (40 + x.length) = mk6 x.length ++ s ++ d ++ x := by
  have hl : (mk6 x.length ++ s ++ d ++ x ++ z).length = 40 + x.length + z.length := by simp only [List.length_append, mk6_len, hs, hd]
  have b : ∀ i, i < 8 → bt (mk6 x.length ++ s ++ d ++ x ++ z) i = bt (mk6 x.length) i := fun i hi => by
    simp only [List.append_assoc]
    exact bt_append hi
  have b0 : bt (mk6 x.length ++ s ++ d ++ x ++ z) 0 = 96 := (b 0 (by omega)).trans rfl
  have b4 : bt (mk6 x.length ++ s ++ d ++ x ++ z) 4 = x.length / 256 := (b 4 (by omega)).trans (nat_byte _ (by omega))
  have b5 : bt (mk6 x.length ++ s ++ d ++ x ++ z) 5 = x.length % 256 := (b 5 (by omega)).trans (nat_byte _ (by omega))
  refine ⟨?_, ?_, ?_, ?_, ?_⟩
  · unfold bndV
    rw [hl, b0, b4, b5, if_neg (by omega), if_neg (by omega), if_pos (by omega), if_neg (by omega), if_neg (by omega)]
    refine Prod.ext rfl (Prod.ext (by simp only; omega) rfl)
  · unfold srcV
    rw [b0, if_neg (by omega)]
    simp only [List.append_assoc]
    exact mid_cut _ _ _ _ _ rfl (by omega)
  · unfold dstV
    rw [b0, if_neg (by omega)]
    rw [show mk6 x.length ++ s ++ d ++ x ++ z = (mk6 x.length ++ s) ++ (d ++ (x ++ z)) by simp only [List.append_assoc]]
    exact mid_cut _ _ _ _ _ (by rw [List.length_append, mk6_len, hs]) (by omega)
  · rw [show mk6 x.length ++ s ++ d ++ x ++ z = (mk6 x.length ++ s ++ d) ++ (x ++ z) by simp only [List.append_assoc]]
    exact mid_cut _ _ _ _ _ (by rw [List.length_append, List.length_append, mk6_len, hs, hd]) rfl
  · exact List.take_left' (by simp only [List.length_append, mk6_len, hs, hd])

/-- What is made, and padded, is read: the data of the statement. -/
theorem mk_read (s d x z : List UInt8) (h : (mkV s d x).2 = 0) : (bndV ((mkV s d x).1 ++ z)).2.2 = 0 ∧ (bndV ((mkV s d x).1 ++ z)).2.1 = (mkV s d x).1.length ∧ srcV ((mkV s d x).1 ++ z) = s ∧ dstV ((mkV s d x).1 ++ z) = d ∧
    (((mkV s d x).1 ++ z).take (bndV ((mkV s d x).1 ++ z)).2.1).drop (bndV ((mkV s d x).1 ++ z)).1 = x ∧ ((mkV s d x).1 ++ z).take (bndV ((mkV s d x).1 ++ z)).2.1 = (mkV s d x).1 := by
  unfold mkV at h ⊢
  by_cases h1 : s.length ≠ d.length ∨ (s.length ≠ 4 ∧ s.length ≠ 16)
  · rw [if_pos h1] at h; simp at h
  · rw [if_neg h1] at h ⊢
    by_cases h4 : s.length = 4
    · rw [if_pos h4] at h ⊢
      by_cases hx : 2000 < 20 + x.length
      · rw [if_pos hx] at h; simp at h
      · rw [if_neg hx]
        obtain ⟨e1, e2, e3, e4, e5⟩ := made4 s d x z h4 (by omega) (by omega)
        refine ⟨by rw [e1], ?_, e2, e3, by rw [e1]; exact e4, by rw [e1]; exact e5⟩
        rw [e1]
        simp only [List.length_append, mk4_len]
        omega
    · rw [if_neg h4] at h ⊢
      by_cases hx : 2000 < 40 + x.length
      · rw [if_pos hx] at h; simp at h
      · rw [if_neg hx]
        obtain ⟨e1, e2, e3, e4, e5⟩ := made6 s d x z (by omega) (by omega) (by omega)
        refine ⟨by rw [e1], ?_, e2, e3, by rw [e1]; exact e4, by rw [e1]; exact e5⟩
        rw [e1]
        simp only [List.length_append, mk6_len]
        omega
theorem mk_len (s d x : List UInt8) : (mkV s d x).1.length ≤ 2000 ∧ ((mkV s d x).2 ≠ 0 → (mkV s d x).1 = []) := by
  unfold mkV
  repeat' split
  all_goals
    simp only [List.length_nil, List.length_append, mk4_len, mk6_len]
    constructor
    · omega
    · first
      | (intro _; trivial)
      | (intro _; rfl)
      | (intro h; exact absurd rfl h)
theorem pad_ok (n : Int) (len : Nat) : (n < 1 → padN n len = 0) ∧ (1 ≤ n → (len + padN n len) % n.toNat = 0 ∧ padN n len < n.toNat) := by
  unfold padN
  refine ⟨fun h => by rw [if_pos (.inl h)], fun h => ?_⟩
  obtain ⟨k, rfl⟩ := Int.eq_ofNat_of_zero_le (show 0 ≤ n by omega)
  rw [Int.toNat_natCast]
  have hm : len % k < k := Nat.mod_lt _ (by omega)
  by_cases h2 : len % k = 0
  · rw [if_pos (.inr h2)]
    exact ⟨h2, by omega⟩
  · rw [if_neg (by rintro (h3 | h3); omega; exact h2 h3)]
    refine ⟨?_, by omega⟩
    have := Nat.div_add_mod len k
    rw [show len + (k - len % k) = k * (len / k) + k by omega, Nat.add_mod_right, Nat.mul_mod_right]
end Go.Proofs.Ytgplcojkhacniaa

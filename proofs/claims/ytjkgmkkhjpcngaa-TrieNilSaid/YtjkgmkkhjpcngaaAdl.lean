/-
  Masks and bits of addresses: plain laws on lists of bytes. No condition.
-/
import Derived.Test.YtjkgmkkhjpcngaaSl
namespace Go.Proofs.Ytjkgmkkhjpcngaa

/-- The mask of a byte at a place, if b bits are the first ones. -/
def maskN (p b : Nat) : Nat := 256 - 2 ^ (8 - min 8 (b - 8 * p))
/-- A bit of an address. -/
def bitN (l : List UInt8) (j : Nat) : Nat := (l.getD (j / 8) 0).toNat / 2 ^ (7 - j % 8) % 2
def sameP (l m : List UInt8) (b : Nat) : Prop := ∀ k, k < l.length → (l.getD k 0).toNat &&& maskN k b = (m.getD k 0).toNat &&& maskN k b
instance (l m : List UInt8) (b : Nat) : Decidable (sameP l m b) := by unfold sameP; infer_instance
def plainV (l : List UInt8) (b : Nat) : List UInt8 := (List.range l.length).map fun k => UInt8.ofNat ((l.getD k 0).toNat &&& maskN k b)

theorem and_mk (c r : Nat) (hc : c < 256) (hr : r ≤ 8) : c &&& (256 - 2 ^ (8 - r)) = c / 2 ^ (8 - r) * 2 ^ (8 - r) := by
  have h : ∀ (r : Fin 9) (c : Fin 256), c.1 &&& (256 - 2 ^ (8 - r.1)) = c.1 / 2 ^ (8 - r.1) * 2 ^ (8 - r.1) := by decide +kernel
  exact h ⟨r, by omega⟩ ⟨c, hc⟩
theorem and_mk_lt (c k b : Nat) (hc : c < 256) : c &&& maskN k b < 256 := Nat.lt_of_le_of_lt Nat.and_le_left hc
theorem byte_bits (c d : Nat) : ∀ r, r ≤ 8 → (c / 2 ^ (8 - r) = d / 2 ^ (8 - r) ↔ c / 2 ^ 8 = d / 2 ^ 8 ∧ ∀ j, j < r → c / 2 ^ (7 - j) % 2 = d / 2 ^ (7 - j) % 2)
  | 0, _ => by simp
  | r + 1, h => by
    have ih := byte_bits c d r (by omega)
    have e : 8 - r = (7 - r) + 1 := by omega
    have e' : 8 - (r + 1) = 7 - r := by omega
    rw [e, Nat.pow_succ, ← Nat.div_div_eq_div_mul, ← Nat.div_div_eq_div_mul] at ih
    rw [e']
    constructor
    · intro e
      obtain ⟨h1, h2⟩ := ih.1 (by rw [e])
      refine ⟨h1, fun j hj => ?_⟩
      by_cases hjr : j = r
      · subst hjr; rw [e]
      · exact h2 j (by omega)
    · rintro ⟨h1, h2⟩
      have h3 := ih.2 ⟨h1, fun j hj => h2 j (by omega)⟩
      have h4 := h2 r (by omega)
      generalize c / 2 ^ (7 - r) = x at *
      generalize d / 2 ^ (7 - r) = y at *
      omega
theorem byte_same (c d r : Nat) (hc : c < 256) (hd : d < 256) (hr : r ≤ 8) : c &&& (256 - 2 ^ (8 - r)) = d &&& (256 - 2 ^ (8 - r)) ↔ ∀ j, j < r → c / 2 ^ (7 - j) % 2 = d / 2 ^ (7 - j) % 2 := by
  rw [and_mk c r hc hr, and_mk d r hd hr]
  have hp : 0 < 2 ^ (8 - r) := Nat.pow_pos (by omega)
  rw [Nat.mul_left_inj (by omega), byte_bits c d r hr]
  simp [Nat.div_eq_of_lt (show c < 2 ^ 8 by omega), Nat.div_eq_of_lt (show d < 2 ^ 8 by omega)]
theorem same_bits {l m : List UInt8} {b : Nat} (hb : b ≤ 8 * l.length) : sameP l m b ↔ ∀ j, j < b → bitN l j = bitN m j := by
  unfold sameP bitN maskN
  constructor
  · intro h j hj
    have h1 := h (j / 8) (by omega)
    rw [byte_same _ _ _ (UInt8.toNat_lt _) (UInt8.toNat_lt _) (by omega)] at h1
    exact h1 (j % 8) (by omega)
  · intro h k hk
    rw [byte_same _ _ _ (UInt8.toNat_lt _) (UInt8.toNat_lt _) (by omega)]
    intro j hj
    have := h (8 * k + j) (by omega)
    rwa [show (8 * k + j) / 8 = k by omega, show (8 * k + j) % 8 = j by omega] at this
theorem bit_lt (l : List UInt8) (j : Nat) : bitN l j < 2 := Nat.mod_lt _ (by omega)
theorem plain_length (l : List UInt8) (b : Nat) : (plainV l b).length = l.length := by simp [plainV]
theorem plain_get {l : List UInt8} {b k : Nat} (hk : k < l.length) : (plainV l b).getD k 0 = UInt8.ofNat ((l.getD k 0).toNat &&& maskN k b) := by
  simp [plainV, List.getD, hk]
theorem plain_nat {l : List UInt8} {b k : Nat} (hk : k < l.length) : ((plainV l b).getD k 0).toNat = (l.getD k 0).toNat &&& maskN k b := by
  rw [plain_get hk, UInt8.toNat_ofNat']
  exact Nat.mod_eq_of_lt (and_mk_lt _ _ _ (UInt8.toNat_lt _))
theorem plain_same {l m : List UInt8} {b : Nat} : sameP (plainV l b) m b ↔ sameP l m b := by
  unfold sameP
  rw [plain_length]
  constructor
  · intro h k hk
    have := h k hk
    rwa [plain_nat hk, Nat.and_assoc, Nat.and_self] at this
  · intro h k hk
    rw [plain_nat hk, Nat.and_assoc, Nat.and_self]
    exact h k hk
theorem plain_zero (l : List UInt8) : plainV l 0 = List.replicate l.length 0 := by
  apply List.ext_getElem
  · simp [plainV]
  · intro i h1 h2
    simp [plainV, maskN]
theorem mask_step (c r : Nat) (hc : c < 256) (hr : r < 8) : c &&& (256 - 2 ^ (8 - (r + 1))) = (c &&& (256 - 2 ^ (8 - r))) + c / 2 ^ (7 - r) % 2 * 2 ^ (7 - r) := by
  have h : ∀ (r : Fin 8) (c : Fin 256), c.1 &&& (256 - 2 ^ (8 - (r.1 + 1))) = (c.1 &&& (256 - 2 ^ (8 - r.1))) + c.1 / 2 ^ (7 - r.1) % 2 * 2 ^ (7 - r.1) := by decide +kernel
  exact h ⟨r, by omega⟩ ⟨c, hc⟩
theorem plain_step {l : List UInt8} {i : Nat} (hi : i < 8 * l.length) :
    plainV l (i + 1) = (plainV l i).set (i / 8) (UInt8.ofNat (((plainV l i).getD (i / 8) 0).toNat + bitN l i * 2 ^ (7 - i % 8))) := by
  have hk : i / 8 < l.length := by omega
  rw [plain_nat hk]
  apply List.ext_getElem
  · simp [plainV]
  · intro j h1 h2
    rw [plain_length] at h1
    rw [List.getElem_set]
    by_cases hj : i / 8 = j
    · rw [if_pos hj]
      subst hj
      simp only [plainV, List.getElem_map, List.getElem_range]
      congr 1
      have := mask_step (l.getD (i / 8) 0).toNat (i % 8) (UInt8.toNat_lt _) (by omega)
      unfold maskN bitN
      rwa [show min 8 (i + 1 - 8 * (i / 8)) = i % 8 + 1 by omega, show min 8 (i - 8 * (i / 8)) = i % 8 by omega]
    · rw [if_neg hj]
      simp only [plainV, List.getElem_map, List.getElem_range]
      congr 2
      unfold maskN
      congr 2
      omega
def rightV (l : List UInt8) (b : Int) : Bool := (decide (l.length = 4) || decide (l.length = 16)) && decide (0 ≤ b) && decide (b ≤ 8 * (l.length : Int))
def hasV (l : List UInt8) (b : Int) (m : List UInt8) : Bool := rightV l b && decide (m.length = l.length) && decide (sameP l m b.toNat)
theorem right_plain (l : List UInt8) (b : Int) (n : Nat) : rightV (plainV l n) b = rightV l b := by unfold rightV; rw [plain_length]
theorem has_plain (l m : List UInt8) (b : Int) : hasV (plainV l b.toNat) b m = hasV l b m := by
  unfold hasV
  rw [right_plain, plain_length, decide_eq_decide.2 plain_same]
def withinV (l : List UInt8) (b : Int) (m : List UInt8) (c : Int) : Bool := rightV l b && rightV m c && decide (l.length = m.length) && decide (c ≤ b) && decide (sameP l m c.toNat)
theorem right_nat {l : List UInt8} {b : Int} (h : rightV l b = true) : b.toNat ≤ 8 * l.length ∧ 0 ≤ b := by
  simp only [rightV, Bool.and_eq_true, decide_eq_true_eq] at h
  omega
theorem within_has {l m a : List UInt8} {b c : Int} (h : withinV l b m c = true) (ha : hasV l b a = true) : hasV m c a = true := by
  simp only [withinV, hasV, Bool.and_eq_true, decide_eq_true_eq] at h ha ⊢
  obtain ⟨⟨⟨⟨h1, h2⟩, h3⟩, h4⟩, h5⟩ := h
  obtain ⟨⟨_, h6⟩, h7⟩ := ha
  refine ⟨⟨h2, by omega⟩, ?_⟩
  have hb := right_nat h1
  have hc := right_nat h2
  rw [same_bits (by omega)] at h5 h7 ⊢
  intro j hj
  rw [← h5 j hj]
  exact h7 j (by omega)
theorem same_symm {l m : List UInt8} {b : Nat} (hl : l.length = m.length) : sameP l m b ↔ sameP m l b := by
  unfold sameP
  rw [hl]
  exact ⟨fun h k hk => (h k hk).symm, fun h k hk => (h k hk).symm⟩
theorem within_want (l m : List UInt8) (b c : Int) : withinV l b m c = (rightV l b && rightV m c && decide (l.length = m.length) && decide (c ≤ b) && hasV m c l) := by
  unfold withinV hasV
  by_cases h : l.length = m.length
  · rw [decide_eq_true h, show decide (sameP m l c.toNat) = decide (sameP l m c.toNat) from decide_eq_decide.2 (same_symm h).symm]
    cases rightV l b <;> cases rightV m c <;> simp
  · rw [decide_eq_false h]; simp
theorem getD_some {l : List UInt8} {k : Nat} (h : k < l.length) : l[k]? = some (l.getD k 0) := by
  rw [List.getD, List.getElem?_eq_getElem h]; rfl
end Go.Proofs.Ytjkgmkkhjpcngaa

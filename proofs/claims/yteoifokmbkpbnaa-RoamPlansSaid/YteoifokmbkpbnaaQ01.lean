/-
  Walks and plain words (texts Flo, Sky1, Sky2). No condition beyond those that each theorem states.
-/
import Derived.Laws.ComplexArith
import Derived.Test.YteoifokmbkpbnaaChecked
import Derived.Test.YteoifokmbkpbnaaP01
namespace Go.Proofs.Yteoifokmbkpbnaa
section
open Ieee

/-- 'm * 2 ^ e', negated if s, is n (a zero may have either sign). -/
def Rep (s : Bool) (m : Nat) (e : Int) (n : Int) : Prop := ∃ K : Nat, 0 ≤ e + K ∧ m * 2 ^ (e + K).toNat = n.natAbs * 2 ^ K ∧ (n ≠ 0 → s = decide (n < 0))

theorem Rep.more {m : Nat} {e n : Int} {K : Nat} (h0 : 0 ≤ e + K) (h : m * 2 ^ (e + K).toNat = n.natAbs * 2 ^ K) (c : Nat) : m * 2 ^ (e + (K + c : Nat)).toNat = n.natAbs * 2 ^ (K + c) := by
  have e1 : (e + (K + c : Nat)).toNat = (e + K).toNat + c := by omega
  rw [e1, Nat.pow_add, Nat.pow_add, ← Nat.mul_assoc, ← Nat.mul_assoc, h]

theorem two_pow_pos (k : Nat) : 0 < 2 ^ k := Nat.pow_pos (by omega)

/-- Without a K: the two sides' powers. -/
theorem Rep.flat {s : Bool} {m : Nat} {e n : Int} (h : Rep s m e n) : m * 2 ^ e.toNat = n.natAbs * 2 ^ (-e).toNat := by
  obtain ⟨K, h0, h, _⟩ := h
  rcases Int.lt_or_le e 0 with he | he
  · have e1 : e.toNat = 0 := by omega
    have e2 : K = (e + K).toNat + (-e).toNat := by omega
    rw [e1, Nat.pow_zero, Nat.mul_one]
    rw [show (2 : Nat) ^ K = 2 ^ (e + K).toNat * 2 ^ (-e).toNat by rw [← Nat.pow_add, ← e2]] at h
    refine Nat.eq_of_mul_eq_mul_right (two_pow_pos (e + K).toNat) ?_
    rw [h, Nat.mul_assoc, Nat.mul_comm (2 ^ (-e).toNat)]
  · have e1 : (-e).toNat = 0 := by omega
    have e2 : (e + K).toNat = e.toNat + K := by omega
    rw [e1, Nat.pow_zero, Nat.mul_one]
    rw [e2, Nat.pow_add, ← Nat.mul_assoc] at h
    exact Nat.eq_of_mul_eq_mul_right (two_pow_pos K) h
theorem Rep.of_flat {s : Bool} {m : Nat} {e n : Int} (h : m * 2 ^ e.toNat = n.natAbs * 2 ^ (-e).toNat) (hs : n ≠ 0 → s = decide (n < 0)) : Rep s m e n := by
  refine ⟨(-e).toNat, by omega, ?_, hs⟩
  rw [show (e + ((-e).toNat : Nat)).toNat = e.toNat by omega]
  exact h
theorem Rep.zero {s : Bool} {m : Nat} {e n : Int} (h : Rep s m e n) : m = 0 ↔ n = 0 := by
  have := h.flat
  constructor
  · rintro rfl
    rw [Nat.zero_mul] at this
    have := (Nat.mul_eq_zero.1 this.symm).resolve_right (Nat.ne_of_gt (two_pow_pos _))
    omega
  · rintro rfl
    rw [Int.natAbs_zero, Nat.zero_mul] at this
    exact (Nat.mul_eq_zero.1 this).resolve_right (Nat.ne_of_gt (two_pow_pos _))

/-- The word reads as the whole number n. -/
def FI (x : Nat) (n : Int) : Prop := ∃ s m e, double.read x = .number s m e ∧ Rep s m e n

theorem log2_eq {m k : Nat} (h1 : 2 ^ k ≤ m) (h2 : m < 2 ^ (k + 1)) : m.log2 = k := by
  have hm : m ≠ 0 := by have := two_pow_pos k; omega
  have h3 := (Nat.le_log2 hm).2 h1
  have h4 := (Nat.log2_lt hm).2 h2
  omega

/-- What is read back of a normal number. -/
theorem read_word (neg : Bool) (l frac : Nat) (hl : l ≤ 52) (hf : frac < 2 ^ 52) : double.read (double.word neg ((l + 1023) * 2 ^ 52 + frac)) = .number neg (2 ^ 52 + frac) ((l : Int) - 52) := by
  have hr : (l + 1023) * 2 ^ 52 + frac < 2 ^ 63 := by
    have : (l + 1023) * 2 ^ 52 ≤ 1075 * 2 ^ 52 := Nat.mul_le_mul_right _ (by omega)
    omega
  have hsw : double.signWeight = 2 ^ 63 := rfl
  have hbin : double.binade = 2 ^ 52 := rfl
  have hinf : double.infRung = 2047 * 2 ^ 52 := rfl
  have hlp : double.leastPlace = -1074 := rfl
  have e1 : (double.word neg ((l + 1023) * 2 ^ 52 + frac)) % 2 ^ 63 = (l + 1023) * 2 ^ 52 + frac := by
    unfold Format.word
    cases neg
    · exact Nat.mod_eq_of_lt hr
    · simp only [hsw, if_true]
      rw [Nat.add_mod_left]
      exact Nat.mod_eq_of_lt hr
  have e2 : (double.word neg ((l + 1023) * 2 ^ 52 + frac)) / 2 ^ 63 % 2 = neg.toNat := by
    unfold Format.word
    cases neg
    · simp only [Bool.false_eq_true, if_false]
      rw [Nat.div_eq_of_lt hr]; rfl
    · simp only [hsw, if_true]
      rw [Nat.add_div_left _ (by omega), Nat.div_eq_of_lt hr]; rfl
  have e3 : ((l + 1023) * 2 ^ 52 + frac) % 2 ^ 52 = frac := by
    rw [Nat.mul_comm, Nat.mul_add_mod]; exact Nat.mod_eq_of_lt hf
  have e4 : ((l + 1023) * 2 ^ 52 + frac) / 2 ^ 52 = l + 1023 := by
    rw [Nat.mul_comm, Nat.mul_add_div (by omega), Nat.div_eq_of_lt hf]
  unfold Format.read
  simp only [hsw, hbin, hinf, hlp, e1, e2, e3, e4]
  have n1 : ¬ (l + 1023) * 2 ^ 52 + frac < 2 ^ 52 := by
    have : 1023 * 2 ^ 52 ≤ (l + 1023) * 2 ^ 52 := Nat.mul_le_mul_right _ (by omega)
    omega
  have n2 : (l + 1023) * 2 ^ 52 + frac < 2047 * 2 ^ 52 := by
    have : (l + 1023) * 2 ^ 52 ≤ 1075 * 2 ^ 52 := Nat.mul_le_mul_right _ (by omega)
    omega
  rw [if_neg n1, if_pos n2]
  have e5 : (neg.toNat == 1) = neg := by cases neg <;> rfl
  have e6 : (-1074 : Int) + ((l + 1023 - 1 : Nat) : Int) = (l : Int) - 52 := by omega
  rw [e5, e6]

theorem cut_exact (neg : Bool) (q drop : Nat) (way : Toward) (hd : q = 0 ∨ drop ≤ (q * 2 ^ drop).log2 + 2) : way.cut neg (q * 2 ^ drop) drop = q := by
  unfold Toward.cut
  rcases hd with rfl | hd
  · rw [Nat.zero_mul]
    have g0 : 0 < 1 <<< min drop ((0 : Nat).log2 + 2) := by rw [Nat.one_shiftLeft]; exact two_pow_pos _
    generalize 1 <<< min drop ((0 : Nat).log2 + 2) = g at g0
    simp only [Nat.zero_div, Nat.zero_mod]
    have hg : (g == 0) = false := by rw [beq_eq_false_iff_ne]; omega
    cases way <;> simp [hg]
  · rw [Nat.min_eq_left hd, Nat.one_shiftLeft]
    simp only [Nat.mul_div_cancel _ (two_pow_pos drop), Nat.mul_mod_left]
    have g0 := two_pow_pos drop
    have hg : (2 ^ drop == 0) = false := by rw [beq_eq_false_iff_ne]; omega
    cases way <;> simp [hg]

theorem log2_ge {q drop : Nat} (h : q ≠ 0) : drop ≤ (q * 2 ^ drop).log2 + 2 := by
  have h1 : q * 2 ^ drop ≠ 0 := Nat.mul_ne_zero h (Nat.ne_of_gt (two_pow_pos _))
  have := (Nat.le_log2 h1).2 (Nat.le_mul_of_pos_left (2 ^ drop) (by omega) : 2 ^ drop ≤ q * 2 ^ drop)
  omega

theorem rung_le {l frac : Nat} (hl : l ≤ 52) (hf : frac < 2 ^ 52) : (l + 1023) * 2 ^ 52 + frac ≤ 2047 * 2 ^ 52 := by
  generalize (2 : Nat) ^ 52 = P at *
  have h1 : (l + 1023) * P + frac ≤ (l + 1023) * P + P := Nat.add_le_add_left (Nat.le_of_lt hf) _
  have h2 : (l + 1024) * P = (l + 1023) * P + P := Nat.succ_mul (l + 1023) P
  have h3 : (l + 1024) * P ≤ 2047 * P := Nat.mul_le_mul_right _ (by omega)
  exact Nat.le_trans h1 (h2 ▸ h3)

set_option maxRecDepth 100000 in
/-- A whole number below 2^53 is written exactly. -/
theorem fi_write {s : Bool} {m : Nat} {e n : Int} (h : Rep s m e n) (hn : n.natAbs < 2 ^ 53) : FI (double.write (.number s m e)) n := by
  show FI (double.nearest s m e) n
  unfold Format.nearest
  by_cases hm : m = 0
  · rw [if_pos hm]
    have h0 := h.zero.1 hm
    subst h0
    refine ⟨s, 0, -1074, ?_, Rep.of_flat (by rw [Int.natAbs_zero, Nat.zero_mul, Nat.zero_mul]) (fun h => absurd rfl h)⟩
    cases s <;> rfl
  · rw [if_neg hm]
    have hn0 : n ≠ 0 := fun hh => hm (h.zero.2 hh)
    have hflat := h.flat
    obtain ⟨l, hl⟩ : ∃ l, l = n.natAbs.log2 := ⟨_, rfl⟩
    have hna : n.natAbs ≠ 0 := by omega
    have hl1 : 2 ^ l ≤ n.natAbs := by rw [hl]; exact Nat.log2_self_le hna
    have hl2 : n.natAbs < 2 ^ (l + 1) := by rw [hl]; exact Nat.lt_log2_self
    have hl52 : l ≤ 52 := by
      have := (Nat.log2_lt hna).2 hn
      omega
    -- the place of the first digit
    have hlog : e + m.log2 = l := by
      obtain ⟨K, hK0, hK, _⟩ := h
      have a1 : 2 ^ (l + K) ≤ m * 2 ^ (e + K).toNat := by rw [hK, Nat.pow_add]; exact Nat.mul_le_mul_right _ hl1
      have a2 : m * 2 ^ (e + K).toNat < 2 ^ (l + K + 1) := by
        rw [hK, show l + K + 1 = (l + 1) + K by omega, Nat.pow_add]; exact Nat.mul_lt_mul_of_pos_right hl2 (two_pow_pos _)
      have a3 := log2_eq a1 a2
      have b1 : 2 ^ (m.log2 + (e + K).toNat) ≤ m * 2 ^ (e + K).toNat := by rw [Nat.pow_add]; exact Nat.mul_le_mul_right _ (Nat.log2_self_le hm)
      have b2 : m * 2 ^ (e + K).toNat < 2 ^ (m.log2 + (e + K).toNat + 1) := by
        rw [show m.log2 + (e + K).toNat + 1 = (m.log2 + 1) + (e + K).toNat by omega, Nat.pow_add]; exact Nat.mul_lt_mul_of_pos_right Nat.lt_log2_self (two_pow_pos _)
      have b3 := log2_eq b1 b2
      omega
    have hbin : double.binade = 2 ^ 52 := rfl
    have hinf : double.infRung = 2047 * 2 ^ 52 := rfl
    have hlp : double.leastPlace = -1074 := rfl
    have hfb : ((double.fractionBits : Nat) : Int) = 52 := rfl
    have hlast : max (e + (m.log2 : Nat) - (double.fractionBits : Nat)) double.leastPlace = (l : Int) - 52 := by rw [hlp, hfb]; omega
    simp only [hlast]
    -- the digits that are kept
    have hq1 : 2 ^ 52 ≤ n.natAbs * 2 ^ (52 - l) := by
      rw [show (2 : Nat) ^ 52 = 2 ^ l * 2 ^ (52 - l) by rw [← Nat.pow_add]; congr 1; omega]
      exact Nat.mul_le_mul_right _ hl1
    have hq2 : n.natAbs * 2 ^ (52 - l) < 2 ^ 53 := by
      rw [show (2 : Nat) ^ 53 = 2 ^ (l + 1) * 2 ^ (52 - l) by rw [← Nat.pow_add]; congr 1; omega]
      exact Nat.mul_lt_mul_of_pos_right hl2 (two_pow_pos _)
    have hkept : Toward.even.cut s (m <<< (e - ((l : Int) - 52)).toNat) (((l : Int) - 52) - e).toNat = n.natAbs * 2 ^ (52 - l) := by
      rw [Nat.shiftLeft_eq]
      rcases Int.lt_or_le e ((l : Int) - 52) with he | he
      · have e1 : (e - ((l : Int) - 52)).toNat = 0 := by omega
        have e2 : e.toNat = 0 := by omega
        have e3 : (-e).toNat = (52 - l) + (((l : Int) - 52) - e).toNat := by omega
        rw [e1, Nat.pow_zero, Nat.mul_one]
        rw [e2, Nat.pow_zero, Nat.mul_one, e3, Nat.pow_add, ← Nat.mul_assoc] at hflat
        rw [hflat]
        exact cut_exact _ _ _ _ (.inr (log2_ge (by omega)))
      · have e1 : (((l : Int) - 52) - e).toNat = 0 := by omega
        rw [e1]
        have := cut_exact s (m * 2 ^ (e - ((l : Int) - 52)).toNat) 0 .even (.inr (by omega))
        rw [Nat.pow_zero, Nat.mul_one] at this
        rw [this]
        have e4 : (e - ((l : Int) - 52)).toNat + (-e).toNat = e.toNat + (52 - l) := by omega
        refine Nat.eq_of_mul_eq_mul_right (two_pow_pos (-e).toNat) ?_
        rw [Nat.mul_assoc, ← Nat.pow_add, e4, Nat.pow_add, ← Nat.mul_assoc, hflat, Nat.mul_assoc, Nat.mul_assoc, Nat.mul_comm (2 ^ (-e).toNat)]
    rw [hkept, hlp, hbin, hinf]
    obtain ⟨frac, hfr⟩ : ∃ frac, n.natAbs * 2 ^ (52 - l) = 2 ^ 52 + frac := ⟨n.natAbs * 2 ^ (52 - l) - 2 ^ 52, by omega⟩
    have hff : frac < 2 ^ 52 := by omega
    have hrung : ((l : Int) - 52 - -1074).toNat * 2 ^ 52 + n.natAbs * 2 ^ (52 - l) = (l + 1023) * 2 ^ 52 + frac := by
      rw [hfr, show ((l : Int) - 52 - -1074).toNat = l + 1022 by omega]
      generalize (2 : Nat) ^ 52 = P
      rw [show (l + 1023) * P = (l + 1022) * P + P from Nat.succ_mul (l + 1022) P]
      exact (Nat.add_assoc _ _ _).symm
    rw [hrung, Nat.min_eq_left (rung_le hl52 hff)]
    refine ⟨s, 2 ^ 52 + frac, (l : Int) - 52, read_word s l frac hl52 hff, Rep.of_flat ?_ ?_⟩
    · rw [show ((l : Int) - 52).toNat = 0 by omega, show (-((l : Int) - 52)).toNat = 52 - l by omega, Nat.pow_zero, Nat.mul_one, hfr]
    · obtain ⟨_, _, _, hs⟩ := h
      exact hs

theorem signed_eq (s : Bool) (m up : Nat) (n : Int) (k : Nat) (hm : m * 2 ^ up = n.natAbs * 2 ^ k) (hs : n ≠ 0 → s = decide (n < 0)) : signed s m up = n * 2 ^ k := by
  unfold signed
  rw [Nat.shiftLeft_eq, hm]
  by_cases h0 : n = 0
  · subst h0
    simp
  · have hk : ((n.natAbs * 2 ^ k : Nat) : Int) = (n.natAbs : Int) * 2 ^ k := by push_cast; rfl
    rw [hs h0, hk]
    by_cases hneg : n < 0
    · rw [decide_eq_true hneg, if_pos rfl, show (n.natAbs : Int) = -n by omega, Int.neg_mul, Int.neg_neg]
    · rw [decide_eq_false hneg, if_neg (by simp), show (n.natAbs : Int) = n by omega]

theorem natAbs_mul_pow (n : Int) (k : Nat) : (n * 2 ^ k).natAbs = n.natAbs * 2 ^ k := by
  rw [Int.natAbs_mul, Int.natAbs_pow]; rfl
theorem neg_mul_pow (n : Int) (k : Nat) : (n * 2 ^ k < 0) ↔ n < 0 := by
  have hp : (0 : Int) < 2 ^ k := Int.pow_pos (by omega)
  constructor
  · intro h
    rcases Int.lt_or_le n 0 with h1 | h1
    · exact h1
    · have := Int.mul_nonneg h1 (Int.le_of_lt hp); omega
  · intro h
    exact Int.mul_neg_of_neg_of_pos h hp

/-- How a part of a sum stands above the lesser place. -/
theorem part_sum {s : Bool} {m : Nat} {i a base : Int} (h : Rep s m i a) (hb : base ≤ i) (B : Nat) (hB : 0 ≤ base + B) : m * 2 ^ (i - base).toNat * 2 ^ (base + B).toNat = a.natAbs * 2 ^ B := by
  have hf := h.flat
  refine Nat.eq_of_mul_eq_mul_right (two_pow_pos (-i).toNat) ?_
  have e : (i - base).toNat + ((base + B).toNat + (-i).toNat) = i.toNat + B := by omega
  rw [Nat.mul_assoc, Nat.mul_assoc, ← Nat.pow_add, ← Nat.pow_add, e, Nat.pow_add, ← Nat.mul_assoc, hf, Nat.mul_assoc, Nat.mul_assoc, Nat.mul_comm (2 ^ (-i).toNat)]

theorem fi_sum {s t : Bool} {m k : Nat} {i j a b : Int} (h1 : Rep s m i a) (h2 : Rep t k j b) : ∃ S M E, Datum.sum (.number s m i) (.number t k j) = some (.number S M E) ∧ Rep S M E (a + b) := by
  refine ⟨_, _, _, rfl, ?_⟩
  generalize hbase : min i j = base
  have hi : base ≤ i := by omega
  have hj : base ≤ j := by omega
  obtain ⟨B, hB⟩ : ∃ B : Nat, B = (-base).toNat := ⟨_, rfl⟩
  have hB0 : 0 ≤ base + B := by omega
  have p1 := part_sum h1 hi B hB0
  have p2 := part_sum h2 hj B hB0
  obtain ⟨_, _, _, hs1⟩ := h1
  obtain ⟨_, _, _, hs2⟩ := h2
  have q1 : signed s (m * 2 ^ (i - base).toNat) (base + B).toNat = a * 2 ^ B := signed_eq _ _ _ _ _ p1 hs1
  have q2 : signed t (k * 2 ^ (j - base).toNat) (base + B).toNat = b * 2 ^ B := signed_eq _ _ _ _ _ p2 hs2
  have sg : ∀ (u : Bool) (x c d : Nat), signed u (x * 2 ^ c) d = signed u x c * 2 ^ d := by
    intro u x c d
    unfold signed
    rw [Nat.shiftLeft_eq, Nat.shiftLeft_eq]
    cases u <;> simp [Int.neg_mul]
  rw [sg] at q1 q2
  have htot : (signed s m (i - base).toNat + signed t k (j - base).toNat) * 2 ^ (base + B).toNat = (a + b) * 2 ^ B := by rw [Int.add_mul, Int.add_mul, q1, q2]
  generalize signed s m (i - base).toNat + signed t k (j - base).toNat = tot at htot
  refine ⟨B, hB0, ?_, fun hn => ?_⟩
  · have := congrArg Int.natAbs htot
    rwa [natAbs_mul_pow, natAbs_mul_pow] at this
  · have hne : tot ≠ 0 := by
      rintro rfl
      rw [Int.zero_mul] at htot
      have hp : (0 : Int) < 2 ^ B := Int.pow_pos (by omega)
      rcases Int.mul_eq_zero.1 htot.symm with h | h
      · exact hn h
      · omega
    rw [if_neg hne]
    have h1 := neg_mul_pow tot (base + B).toNat
    have h2 := neg_mul_pow (a + b) B
    rw [htot] at h1
    rw [decide_eq_decide]
    exact h1.symm.trans h2

theorem Rep.neg {s : Bool} {m : Nat} {e n : Int} (h : Rep s m e n) : Rep (!s) m e (-n) := by
  obtain ⟨K, h0, h1, hs⟩ := h
  refine ⟨K, h0, by rw [Int.natAbs_neg]; exact h1, fun hn => ?_⟩
  rw [hs (by omega)]
  by_cases hneg : n < 0
  · rw [decide_eq_true hneg, decide_eq_false (by omega)]; rfl
  · rw [decide_eq_false hneg, decide_eq_true (by omega)]; rfl

theorem rep_mul {s t : Bool} {m k : Nat} {i j a b : Int} (h1 : Rep s m i a) (h2 : Rep t k j b) : Rep (s ^^ t) (m * k) (i + j) (a * b) := by
  obtain ⟨K, h0, h1, hs⟩ := h1
  obtain ⟨L, g0, g1, gs⟩ := h2
  refine ⟨K + L, by omega, ?_, fun hn => ?_⟩
  · rw [show (i + j + (K + L : Nat)).toNat = (i + K).toNat + (j + L).toNat by omega, Nat.pow_add, Nat.pow_add, Int.natAbs_mul, Nat.mul_mul_mul_comm, h1, g1, Nat.mul_mul_mul_comm]
  · have ha : a ≠ 0 := by rintro rfl; simp at hn
    have hb : b ≠ 0 := by rintro rfl; simp at hn
    rw [hs ha, gs hb]
    rcases Int.lt_or_gt_of_ne ha with ha | ha <;> rcases Int.lt_or_gt_of_ne hb with hb | hb
    · have := Int.mul_pos_of_neg_of_neg ha hb
      rw [decide_eq_true ha, decide_eq_true hb, decide_eq_false (by omega)]; rfl
    · have := Int.mul_neg_of_neg_of_pos ha hb
      rw [decide_eq_true ha, decide_eq_false (by omega), decide_eq_true this]; rfl
    · have := Int.mul_neg_of_pos_of_neg ha hb
      rw [decide_eq_true hb, decide_eq_false (by omega), decide_eq_true this]; rfl
    · have := Int.mul_pos ha hb
      rw [decide_eq_false (by omega), decide_eq_false (by omega), decide_eq_false (by omega)]; rfl

theorem fi_add {x y : Nat} {a b : Int} (h1 : FI x a) (h2 : FI y b) (hn : (a + b).natAbs < 2 ^ 53) : ∃ r, floatBits .add .f64 x y = some r ∧ FI r (a + b) := by
  obtain ⟨s, m, i, hx, h1⟩ := h1
  obtain ⟨t, k, j, hy, h2⟩ := h2
  obtain ⟨S, M, E, hs, hr⟩ := fi_sum h1 h2
  refine ⟨double.write (.number S M E), ?_, fi_write hr hn⟩
  show (Datum.sum (double.read x) (double.read y)).map double.write = _
  rw [hx, hy, hs]; rfl
theorem fi_sub {x y : Nat} {a b : Int} (h1 : FI x a) (h2 : FI y b) (hn : (a - b).natAbs < 2 ^ 53) : ∃ r, floatBits .sub .f64 x y = some r ∧ FI r (a - b) := by
  obtain ⟨s, m, i, hx, h1⟩ := h1
  obtain ⟨t, k, j, hy, h2⟩ := h2
  obtain ⟨S, M, E, hs, hr⟩ := fi_sum h1 h2.neg
  refine ⟨double.write (.number S M E), ?_, fi_write (by rw [Int.sub_eq_add_neg]; exact hr) hn⟩
  show (Datum.sum (double.read x) (double.read y).opposite).map double.write = _
  rw [hx, hy]
  show (Datum.sum (.number s m i) (.number (!t) k j)).map double.write = _
  rw [hs]; rfl
theorem fi_mul {x y : Nat} {a b : Int} (h1 : FI x a) (h2 : FI y b) (hn : (a * b).natAbs < 2 ^ 53) : ∃ r, floatBits .mul .f64 x y = some r ∧ FI r (a * b) := by
  obtain ⟨s, m, i, hx, h1⟩ := h1
  obtain ⟨t, k, j, hy, h2⟩ := h2
  refine ⟨double.write (.number (s ^^ t) (m * k) (i + j)), ?_, fi_write (rep_mul h1 h2) hn⟩
  show (Datum.product (double.read x) (double.read y)).map double.write = _
  rw [hx, hy]; rfl
theorem fi_ofInt {n : Int} (hn : n.natAbs < 2 ^ 53) : FI (floatOfInt .f64 n) n :=
  fi_write (s := decide (n < 0)) (m := n.natAbs) (e := 0) ⟨0, by omega, by simp, fun _ => rfl⟩ hn

theorem fi_order {x y : Nat} {a b : Int} (h1 : FI x a) (h2 : FI y b) : double.order x y = some (compare a b) := by
  obtain ⟨s, m, i, hx, h1⟩ := h1
  obtain ⟨t, k, j, hy, h2⟩ := h2
  show Datum.order (double.read x) (double.read y) = _
  rw [hx, hy]
  show some (compare (signed s m (i - min i j).toNat) (signed t k (j - min i j).toNat)) = _
  generalize hbase : min i j = base
  have hi : base ≤ i := by omega
  have hj : base ≤ j := by omega
  obtain ⟨B, hB⟩ : ∃ B : Nat, B = (-base).toNat := ⟨_, rfl⟩
  have hB0 : 0 ≤ base + B := by omega
  have p1 := part_sum h1 hi B hB0
  have p2 := part_sum h2 hj B hB0
  obtain ⟨_, _, _, hs1⟩ := h1
  obtain ⟨_, _, _, hs2⟩ := h2
  have q1 : signed s (m * 2 ^ (i - base).toNat) (base + B).toNat = a * 2 ^ B := signed_eq _ _ _ _ _ p1 hs1
  have q2 : signed t (k * 2 ^ (j - base).toNat) (base + B).toNat = b * 2 ^ B := signed_eq _ _ _ _ _ p2 hs2
  have sg : ∀ (u : Bool) (x c d : Nat), signed u (x * 2 ^ c) d = signed u x c * 2 ^ d := by
    intro u x c d
    unfold signed
    rw [Nat.shiftLeft_eq, Nat.shiftLeft_eq]
    cases u <;> simp [Int.neg_mul]
  rw [sg] at q1 q2
  generalize signed s m (i - base).toNat = u at q1
  generalize signed t k (j - base).toNat = v at q2
  have hp : (0 : Int) < 2 ^ (base + B).toNat := Int.pow_pos (by omega)
  have hp' : (0 : Int) < 2 ^ B := Int.pow_pos (by omega)
  have key : (u - v) * 2 ^ (base + B).toNat = (a - b) * 2 ^ B := by rw [Int.sub_mul, Int.sub_mul, q1, q2]
  have k1 := neg_mul_pow (u - v) (base + B).toNat
  have k2 := neg_mul_pow (a - b) B
  rw [key] at k1
  have k3 := neg_mul_pow (v - u) (base + B).toNat
  have k4 := neg_mul_pow (b - a) B
  have key' : (v - u) * 2 ^ (base + B).toNat = (b - a) * 2 ^ B := by rw [Int.sub_mul, Int.sub_mul, q1, q2]
  rw [key'] at k3
  have c1 := k1.symm.trans k2
  have c2 := k3.symm.trans k4
  congr 1
  show compareOfLessAndEq u v = compareOfLessAndEq a b
  unfold compareOfLessAndEq
  by_cases g1 : u < v
  · rw [if_pos g1, if_pos (by omega)]
  · rw [if_neg g1, if_neg (show ¬ a < b by omega)]
    by_cases g2 : u = v
    · rw [if_pos g2, if_pos (by omega)]
    · rw [if_neg g2, if_neg (by omega)]

theorem fi_toInt {x : Nat} {n : Int} (h : FI x n) (h1 : -9223372036854775808 ≤ n) (h2 : n ≤ 9223372036854775807) : floatToIntVal .f64 x .i64 = some n := by
  obtain ⟨s, m, e, hx, h⟩ := h
  have hflat := h.flat
  have hz : (FloatKind.f64.decode x).toInt .zero = some n := by
    show ((double.read x).toInt .zero) = _
    rw [hx]
    show some (signed s (Toward.zero.cut s (m <<< e.toNat) (-e).toNat) 0) = some n
    rw [Nat.shiftLeft_eq, hflat, cut_exact _ _ _ _ (by
      by_cases h0 : n.natAbs = 0
      · exact .inl h0
      · exact .inr (log2_ge h0))]
    obtain ⟨_, _, _, hs⟩ := h
    rw [signed_eq s n.natAbs 0 n 0 rfl hs]
    simp
  unfold floatToIntVal
  rw [hz]
  have e1 : IntKind.i64.min = -9223372036854775808 := rfl
  have e2 : IntKind.i64.max = 9223372036854775807 := rfl
  rw [e1, e2]
  simp only [h1, h2, and_self, if_true]
end
section
open Go.RowKit Go.Deep

/-- A complex number of whole parts. -/
def Cx (c : Value) (x y : Int) : Prop := ∃ a b, c = .complex .f64 a b ∧ FI a x ∧ FI b y

def pt (p : Int × Int) : Value := .agg #[.int .i64 p.1, .int .i64 p.2]
theorem sq_bd {x : Int} {B : Nat} (h1 : -(B : Int) ≤ x) (h2 : x ≤ B) : 0 ≤ x * x ∧ x * x ≤ ((B * B : Nat) : Int) := by
  have e := Int.natAbs_mul_self (a := x)
  have h : x.natAbs ≤ B := by omega
  have := Nat.mul_le_mul h h
  omega

theorem number_any (w : World) (x y : Int) (hx : -40000000 ≤ x ∧ x ≤ 40000000) (hy : -40000000 ≤ y ∧ y ≤ 40000000) :
    Calls Try.prog 60 #[.agg #[.int .i64 x, .int .i64 y]] w fun e w' => ∃ c, e = .returned c ∧ Cx c x y ∧ Only [] w w' := by
  have h1 := hide (fi_ofInt (n := x) (by omega))
  have h2 := hide (fi_ofInt (n := y) (by omega))
  clear hx hy
  go_enter Try.func60, Try.ntmps60
  go_wp2_with fail
  go_ret
  exact ⟨_, rfl, ⟨_, _, rfl, h1.out, h2.out⟩, (Only.refl _ _).alloc _⟩
theorem square_any (w : World) (c : Value) (x y : Int) (hc : Cx c x y) (hx : -40000000 ≤ x ∧ x ≤ 40000000) (hy : -40000000 ≤ y ∧ y ≤ 40000000) :
    Calls Try.prog 67 #[c] w fun e w' => ∃ r, e = .returned (.float .f64 r) ∧ FI r (x * x + y * y) ∧ w = w' := by
  obtain ⟨a, b, rfl, ha, hb⟩ := hc
  have b1 := sq_bd (B := 40000000) hx.1 hx.2
  have b2 := sq_bd (B := 40000000) hy.1 hy.2
  obtain ⟨r1, e1, f1⟩ := fi_mul ha ha (by omega)
  obtain ⟨r2, e2, f2⟩ := fi_mul hb hb (by omega)
  obtain ⟨r3, e3, f3⟩ := fi_add f1 f2 (by omega)
  have m1 := fun w => run_float_arith (P := Try.prog) w .mul 132 .f64 a a r1 e1
  have m2 := fun w => run_float_arith (P := Try.prog) w .mul 132 .f64 b b r2 e2
  have m3 := fun w => run_float_arith (P := Try.prog) w .add 132 .f64 r1 r2 r3 e3
  have F3 := hide f3
  clear ha hb f1 f2 f3 e1 e2 e3 b1 b2 hx hy
  go_enter Try.func67, Try.ntmps67
  go_wp2_with fail
  go_ret
  exact ⟨r3, rfl, F3.out, rfl⟩
theorem point_any (w : World) (c : Value) (x y : Int) (hc : Cx c x y) (hx : -40000000 ≤ x ∧ x ≤ 40000000) (hy : -40000000 ≤ y ∧ y ≤ 40000000) :
    Calls Try.prog 62 #[c] w fun e w' => e = .returned (.agg #[.int .i64 x, .int .i64 y]) ∧ Only [] w w' := by
  obtain ⟨a, b, rfl, ha, hb⟩ := hc
  have c1 := fun w => run_convert_float_int (P := Try.prog) w 132 3 .f64 .i64 a x (by rw [Try.underlying132]; rfl) Try.underlying3 (fi_toInt ha (by omega) (by omega))
  have c2 := fun w => run_convert_float_int (P := Try.prog) w 132 3 .f64 .i64 b y (by rw [Try.underlying132]; rfl) Try.underlying3 (fi_toInt hb (by omega) (by omega))
  clear ha hb hx hy
  go_enter Try.func62, Try.ntmps62
  go_wp2_with fail
  refine bodyPost_ret (v := .agg #[.int .i64 x, .int .i64 y]) (by simp [results, Try.results62, go_sem]) rfl ⟨rfl, ?_⟩
  repeat (first | exact Only.refl _ _ | refine Only.drew ?_ | refine Only.drewN ?_ _ | refine Only.setCell ?_ (.inr (by simp)) _ | refine Only.alloc ?_ _)

def inB (far : Int) (p : Int × Int) : Bool := decide (-far ≤ p.1 ∧ p.1 ≤ far ∧ -far ≤ p.2 ∧ p.2 ≤ far)

set_option maxRecDepth 100000 in
theorem within_any (w : World) (p : Int × Int) (far : Int) (h0 : 0 ≤ far) (h1 : far ≤ 20000000) (hx : -9223372036854775808 ≤ p.1 ∧ p.1 ≤ 9223372036854775807) (hy : -9223372036854775808 ≤ p.2 ∧ p.2 ≤ 9223372036854775807) :
    Calls Try.prog 64 #[pt p, .int .i64 far] w fun e w' => e = .returned (.bool (inB far p)) ∧ Only [] w w' := by
  obtain ⟨x, y⟩ := p
  simp only at hx hy
  unfold pt inB
  simp only
  have hO := hide ((Only.refl [] w).alloc (.cells #[.int .i64 x, .int .i64 y] 95))
  by_cases g1 : -far ≤ x
  · by_cases g2 : x ≤ far
    · by_cases g3 : -far ≤ y
      · by_cases g4 : y ≤ far
        · rw [decide_eq_true (show -far ≤ x ∧ x ≤ far ∧ -far ≤ y ∧ y ≤ far from ⟨g1, g2, g3, g4⟩)]
          go_enter Try.func64, Try.ntmps64
          go_wp2_with fail
          go_ret
          exact ⟨rfl, hO.out⟩
        · rw [decide_eq_false (show ¬ (-far ≤ x ∧ x ≤ far ∧ -far ≤ y ∧ y ≤ far) from fun h => g4 h.2.2.2)]
          have g4' : decide (y ≤ far) = false := decide_eq_false g4
          clear g4
          go_enter Try.func64, Try.ntmps64
          go_wp2_with fail
          go_ret
          exact ⟨rfl, hO.out⟩
      · rw [decide_eq_false (show ¬ (-far ≤ x ∧ x ≤ far ∧ -far ≤ y ∧ y ≤ far) from fun h => g3 h.2.2.1)]
        have g3' : decide (-far ≤ y) = false := decide_eq_false g3
        clear g3
        go_enter Try.func64, Try.ntmps64
        go_wp2_with fail
        go_ret
        exact ⟨rfl, hO.out⟩
    · rw [decide_eq_false (show ¬ (-far ≤ x ∧ x ≤ far ∧ -far ≤ y ∧ y ≤ far) from fun h => g2 h.2.1)]
      have g2' : decide (x ≤ far) = false := decide_eq_false g2
      clear g2
      go_enter Try.func64, Try.ntmps64
      go_wp2_with fail
      go_ret
      exact ⟨rfl, hO.out⟩
  · rw [decide_eq_false (show ¬ (-far ≤ x ∧ x ≤ far ∧ -far ≤ y ∧ y ≤ far) from fun h => g1 h.1)]
    have g1' : decide (-far ≤ x) = false := decide_eq_false g1
    clear g1
    go_enter Try.func64, Try.ntmps64
    go_wp2_with fail
    go_ret
    exact ⟨rfl, hO.out⟩
end
section
open Go.RowKit Go.Deep

/-- Within what a machine's integer holds. -/
def Fit (p : Int × Int) : Prop := (-9223372036854775808 ≤ p.1 ∧ p.1 ≤ 9223372036854775807) ∧ (-9223372036854775808 ≤ p.2 ∧ p.2 ≤ 9223372036854775807)
def okP (p : Int × Int) : Bool := inB 16777216 p
theorem okP_bd {p : Int × Int} (h : okP p = true) : (-16777216 ≤ p.1 ∧ p.1 ≤ 16777216) ∧ (-16777216 ≤ p.2 ∧ p.2 ≤ 16777216) := by
  have := of_decide_eq_true h
  omega
def farV (p q : Int × Int) : Int := (p.1 - q.1) * (p.1 - q.1) + (p.2 - q.2) * (p.2 - q.2)

theorem right_any (w : World) (p : Int × Int) (hp : Fit p) :
    Calls Try.prog 63 #[pt p] w fun e w' => e = .returned (.bool (okP p)) ∧ Only [] w w' := by
  have HO := hide ((Only.refl [] w).alloc (.cells #[.int .i64 p.1, .int .i64 p.2] 95))
  have HW := hide (within_any (w.alloc (.cells #[.int .i64 p.1, .int .i64 p.2] 95)) p 16777216 (by omega) (by omega) hp.1 hp.2)
  unfold pt at *
  go_enter Try.func63, Try.ntmps63
  go_wp2_with (go_at_call 64; refine HW.out.mono ?_; rintro e w1 ⟨rfl, ho⟩; have HO1 := hide (HO.out.trans ho); clear ho)
  go_ret
  exact ⟨rfl, HO1.out⟩

def AndPost (b : Bool) (w : World) (e : Ending) (w' : World) : Prop := e = .returned (.bool b) ∧ Only [] w w'
theorem andpost {b b' : Bool} {w w' : World} (h : b = b') (ho : Only [] w w') : AndPost b w (.returned (.bool b')) w' := ⟨by rw [h], ho⟩

set_option maxRecDepth 100000 in
theorem refright_any (w : World) (p : Int × Int) :
    Calls Try.prog 57 #[pt p] w (AndPost (okP p) w) := by
  obtain ⟨x, y⟩ := p
  unfold pt okP inB
  simp only
  have hO := hide ((Only.refl [] w).alloc (.cells #[.int .i64 x, .int .i64 y] 99))
  by_cases g1 : -16777216 ≤ x
  · by_cases g2 : x ≤ 16777216
    · by_cases g3 : -16777216 ≤ y
      · by_cases g4 : y ≤ 16777216
        · rw [decide_eq_true (show -16777216 ≤ x ∧ x ≤ 16777216 ∧ -16777216 ≤ y ∧ y ≤ 16777216 from ⟨g1, g2, g3, g4⟩)]
          go_enter Try.func57, Try.ntmps57
          go_wp2_with fail
          go_ret
          exact ⟨rfl, hO.out⟩
        · rw [decide_eq_false (show ¬ (-16777216 ≤ x ∧ x ≤ 16777216 ∧ -16777216 ≤ y ∧ y ≤ 16777216) from fun h => g4 h.2.2.2)]
          have g4' : decide (y ≤ 16777216) = false := decide_eq_false g4
          clear g4
          go_enter Try.func57, Try.ntmps57
          go_wp2_with fail
          go_ret
          exact ⟨rfl, hO.out⟩
      · rw [decide_eq_false (show ¬ (-16777216 ≤ x ∧ x ≤ 16777216 ∧ -16777216 ≤ y ∧ y ≤ 16777216) from fun h => g3 h.2.2.1)]
        have g3' : decide (-16777216 ≤ y) = false := decide_eq_false g3
        clear g3
        go_enter Try.func57, Try.ntmps57
        go_wp2_with fail
        go_ret
        exact ⟨rfl, hO.out⟩
    · rw [decide_eq_false (show ¬ (-16777216 ≤ x ∧ x ≤ 16777216 ∧ -16777216 ≤ y ∧ y ≤ 16777216) from fun h => g2 h.2.1)]
      have g2' : decide (x ≤ 16777216) = false := decide_eq_false g2
      clear g2
      go_enter Try.func57, Try.ntmps57
      go_wp2_with fail
      go_ret
      exact ⟨rfl, hO.out⟩
  · rw [decide_eq_false (show ¬ (-16777216 ≤ x ∧ x ≤ 16777216 ∧ -16777216 ≤ y ∧ y ≤ 16777216) from fun h => g1 h.1)]
    have g1' : decide (-16777216 ≤ x) = false := decide_eq_false g1
    clear g1
    go_enter Try.func57, Try.ntmps57
    go_wp2_with fail
    go_ret
    exact ⟨rfl, hO.out⟩

theorem reffar_any (w : World) (p q : Int × Int) (hp1 : -20000000 ≤ p.1 ∧ p.1 ≤ 20000000) (hp2 : -20000000 ≤ p.2 ∧ p.2 ≤ 20000000) (hq1 : -20000000 ≤ q.1 ∧ q.1 ≤ 20000000) (hq2 : -20000000 ≤ q.2 ∧ q.2 ≤ 20000000) :
    Calls Try.prog 65 #[pt p, pt q] w fun e w' => e = .returned (.int .i64 (farV p q)) ∧ Only [] w w' := by
  obtain ⟨x, y⟩ := p
  obtain ⟨u, v⟩ := q
  unfold pt farV
  simp only at *
  have b1 := sq_bd (x := x - u) (B := 40000000) (by omega) (by omega)
  have b2 := sq_bd (x := y - v) (B := 40000000) (by omega) (by omega)
  have d1 : -40000000 ≤ x - u := by omega
  have d2 : x - u ≤ 40000000 := by omega
  have d3 : -40000000 ≤ y - v := by omega
  have d4 : y - v ≤ 40000000 := by omega
  obtain ⟨b11, b12⟩ := b1
  obtain ⟨b21, b22⟩ := b2
  go_enter Try.func65, Try.ntmps65
  go_wp2_with fail
  go_ret
  refine ⟨?_, ?_⟩
  · rfl
  repeat (first | exact Only.refl _ _ | refine Only.drew ?_ | refine Only.drewN ?_ _ | refine Only.setCell ?_ (.inr (by simp)) _ | refine Only.alloc ?_ _)

theorem small_any (w : World) (n : Int) :
    Calls Try.prog 58 #[.int .i64 n] w fun e w' => e = .returned (.bool (decide (-1000 ≤ n ∧ n ≤ 1000))) ∧ w = w' := by
  by_cases g1 : -1000 ≤ n
  · by_cases g2 : n ≤ 1000
    · rw [decide_eq_true (show -1000 ≤ n ∧ n ≤ 1000 from ⟨g1, g2⟩)]
      go_enter Try.func58, Try.ntmps58
      go_wp2_with fail
      go_ret
      exact ⟨rfl, rfl⟩
    · rw [decide_eq_false (show ¬ (-1000 ≤ n ∧ n ≤ 1000) from fun h => g2 h.2)]
      have g2' : decide (n ≤ 1000) = false := decide_eq_false g2
      clear g2
      go_enter Try.func58, Try.ntmps58
      go_wp2_with fail
      go_ret
      exact ⟨rfl, rfl⟩
  · rw [decide_eq_false (show ¬ (-1000 ≤ n ∧ n ≤ 1000) from fun h => g1 h.1)]
    have g1' : decide (-1000 ≤ n) = false := decide_eq_false g1
    clear g1
    go_enter Try.func58, Try.ntmps58
    go_wp2_with fail
    go_ret
    exact ⟨rfl, rfl⟩

theorem cx_sub {c d : Value} {x y u v : Int} (hc : Cx c x y) (hd : Cx d u v) (h1 : (x - u).natAbs < 2 ^ 53) (h2 : (y - v).natAbs < 2 ^ 53) : ∃ e, (∀ w, (binOp .sub 129 c d).run Try.prog w = .ok e w) ∧ Cx e (x - u) (y - v) := by
  obtain ⟨a, b, rfl, ha, hb⟩ := hc
  obtain ⟨a', b', rfl, ha', hb'⟩ := hd
  obtain ⟨r1, e1, f1⟩ := fi_sub ha ha' h1
  obtain ⟨r2, e2, f2⟩ := fi_sub hb hb' h2
  exact ⟨_, fun w => run_complex_sum w .sub (.inr rfl) _ .f64 a b a' b' r1 r2 (by simp [cSumBits, e1, e2]), _, _, rfl, f1, f2⟩
theorem cx_add {c d : Value} {x y u v : Int} (hc : Cx c x y) (hd : Cx d u v) (h1 : (x + u).natAbs < 2 ^ 53) (h2 : (y + v).natAbs < 2 ^ 53) : ∃ e, (∀ w, (binOp .add 129 c d).run Try.prog w = .ok e w) ∧ Cx e (x + u) (y + v) := by
  obtain ⟨a, b, rfl, ha, hb⟩ := hc
  obtain ⟨a', b', rfl, ha', hb'⟩ := hd
  obtain ⟨r1, e1, f1⟩ := fi_add ha ha' h1
  obtain ⟨r2, e2, f2⟩ := fi_add hb hb' h2
  exact ⟨_, fun w => run_complex_sum w .add (.inl rfl) _ .f64 a b a' b' r1 r2 (by simp [cSumBits, e1, e2]), _, _, rfl, f1, f2⟩
theorem cx_mul {c d : Value} {x y u v : Int} (hc : Cx c x y) (hd : Cx d u v) (h1 : (x * u).natAbs < 2 ^ 53) (h2 : (y * v).natAbs < 2 ^ 53) (h3 : (x * u - y * v).natAbs < 2 ^ 53) (h4 : (x * v).natAbs < 2 ^ 53) (h5 : (y * u).natAbs < 2 ^ 53) (h6 : (x * v + y * u).natAbs < 2 ^ 53) :
    ∃ e, (∀ w, (binOp .mul 129 c d).run Try.prog w = .ok e w) ∧ Cx e (x * u - y * v) (x * v + y * u) := by
  obtain ⟨a, b, rfl, ha, hb⟩ := hc
  obtain ⟨a', b', rfl, ha', hb'⟩ := hd
  obtain ⟨r1, e1, f1⟩ := fi_mul ha ha' h1
  obtain ⟨r2, e2, f2⟩ := fi_mul hb hb' h2
  obtain ⟨r3, e3, f3⟩ := fi_sub f1 f2 h3
  obtain ⟨r4, e4, f4⟩ := fi_mul ha hb' h4
  obtain ⟨r5, e5, f5⟩ := fi_mul hb ha' h5
  obtain ⟨r6, e6, f6⟩ := fi_add f4 f5 h6
  exact ⟨_, fun w => run_complex_mul w _ a b a' b' r3 r6 (by simp [cMulBits, e1, e2, e3, e4, e5, e6]), _, _, rfl, f3, f6⟩
end
end Go.Proofs.Yteoifokmbkpbnaa

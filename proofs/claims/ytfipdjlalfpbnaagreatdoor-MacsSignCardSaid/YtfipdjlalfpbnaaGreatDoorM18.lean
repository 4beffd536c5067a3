/-
  Walks and plain words (texts Nl). No condition beyond those that each theorem states.
-/
import Derived.Test.YtfipdjlalfpbnaaGreatDoorM12
namespace Go.Proofs.YtfipdjlalfpbnaaGreatDoor
section
open Go.RowKit Go.Deep

theorem accN_append : ∀ (l m : List UInt8) (u : Nat), accN (l ++ m) u = (accN l u).bind (accN m)
  | [], m, u => rfl
  | c :: r, m, u => by
    rw [List.cons_append, accN, accN]
    split
    · rfl
    · exact accN_append r m _
theorem dgt_nat (n : Nat) (h : n < 10) : (UInt8.ofNat (48 + n)).toNat = 48 + n := by rw [UInt8.toNat_ofNat']; omega
theorem accN_one (n v : Nat) (h : n < 10) (hv : v * 10 + n < 18446744073709551616) : accN [UInt8.ofNat (48 + n)] v = some (v * 10 + n) := by
  rw [accN, dgt_nat n h, if_neg (by omega), accN]
  simp
theorem accN_dec (u : Nat) (hu : u < 18446744073709551616) : accN (Lib.decDigits u) 0 = some u := by
  induction u using Nat.strongRecOn with
  | ind u ih =>
    by_cases h : u < 10
    · rw [Lib.decDigits_one h, accN_one u 0 h (by omega)]
      simp
    · rw [dec_split u h, accN_append, ih (u / 10) (by omega) (by omega)]
      show accN _ (u / 10) = _
      rw [accN_one (u % 10) (u / 10) (by omega) (by omega)]
      congr 1
      omega
theorem dec_dig (u : Nat) : (Lib.decDigits u).all digB = true := by
  have hone : ∀ n : Nat, n < 10 → [UInt8.ofNat (48 + n)].all digB = true := fun n h => by
    simp only [List.all_cons, List.all_nil, Bool.and_true]
    unfold digB
    rw [dgt_nat n h]
    simp
    omega
  induction u using Nat.strongRecOn with
  | ind u ih =>
    by_cases h : u < 10
    · rw [Lib.decDigits_one h]; exact hone u h
    · rw [dec_split u h, List.all_append, ih (u / 10) (by omega), hone _ (by omega)]; rfl
theorem dec_ne (u : Nat) : Lib.decDigits u ≠ [] := by
  by_cases h : u < 10
  · rw [Lib.decDigits_one h]; simp
  · rw [dec_split u h]; simp
theorem dec_head (u : Nat) (h0 : 0 < u) : (Lib.decDigits u).head? ≠ some 48 := by
  induction u using Nat.strongRecOn with
  | ind u ih =>
    by_cases h : u < 10
    · rw [Lib.decDigits_one h]
      intro e
      have e2 : UInt8.ofNat (48 + u) = 48 := by simpa using e
      have e3 := congrArg UInt8.toNat e2
      rw [dgt_nat u h] at e3
      have : (48 : UInt8).toNat = 48 := rfl
      omega
    · rw [dec_split u h, List.head?_append]
      have := ih (u / 10) (by omega) (by omega)
      cases hh : (Lib.decDigits (u / 10)).head? with
      | none => rw [List.head?_eq_none_iff] at hh; exact absurd hh (dec_ne _)
      | some x => rw [hh] at this; exact this
theorem numR_dec (u : Nat) (hu : u < 18446744073709551616) : numR (Lib.decDigits u) = (u, 0) := by
  unfold numR
  rw [if_neg (dec_ne u), if_neg (by rw [dec_dig u]; simp), if_neg, accN_dec u hu]
  rintro ⟨h1, h2⟩
  rcases Nat.eq_zero_or_pos u with h | h
  · subst h; rw [Lib.decDigits_one (by omega)] at h2; simp at h2
  · exact dec_head u h h1
theorem dig_back (c : UInt8) (h : digB c = true) : UInt8.ofNat (48 + (c.toNat - 48)) = c := by
  unfold digB at h
  simp only [Bool.and_eq_true, decide_eq_true_eq] at h
  rw [show 48 + (c.toNat - 48) = c.toNat by omega]
  exact UInt8.ofNat_toNat
theorem accN_back : ∀ (l : List UInt8) (v u : Nat), 0 < v → l.all digB = true → accN l v = some u → Lib.decDigits u = Lib.decDigits v ++ l
  | [], v, u, _, _, h => by
    simp only [accN, Option.some.injEq] at h
    rw [h, List.append_nil]
  | c :: r, v, u, hv, hd, h => by
    simp only [List.all_cons, Bool.and_eq_true] at hd
    rw [accN] at h
    split at h
    · cases h
    · have hc := hd.1
      unfold digB at hc
      simp only [Bool.and_eq_true, decide_eq_true_eq] at hc
      have := accN_back r _ u (by omega) hd.2 h
      rw [this, dec_split _ (by omega), show (v * 10 + (c.toNat - 48)) / 10 = v by omega, show (v * 10 + (c.toNat - 48)) % 10 = c.toNat - 48 by omega, dig_back c hd.1, List.append_assoc]
      rfl
theorem numR_back (l : List UInt8) (h : (numR l).2 = 0) : Lib.decDigits (numR l).1 = l := by
  unfold numR at h ⊢
  split
  · rename_i h1; rw [if_pos h1] at h; cases h
  · rename_i h1
    rw [if_neg h1] at h
    split
    · rename_i h2; rw [if_pos h2] at h; cases h
    · rename_i h2
      rw [if_neg h2] at h
      split
      · rename_i h3; rw [if_pos h3] at h; cases h
      · rename_i h3
        rw [if_neg h3] at h
        cases hA : accN l 0 with
        | none => rw [hA] at h; cases h
        | some u =>
          show Lib.decDigits u = l
          cases l with
          | nil => exact absurd rfl h1
          | cons c r =>
            have hd : (c :: r).all digB = true := by simpa using h2
            simp only [List.all_cons, Bool.and_eq_true] at hd
            rw [accN] at hA
            split at hA
            · cases hA
            · have hc := hd.1
              unfold digB at hc
              simp only [Bool.and_eq_true, decide_eq_true_eq] at hc
              rw [Nat.zero_mul, Nat.zero_add] at hA
              rcases Nat.eq_zero_or_pos (c.toNat - 48) with hz | hz
              · have hc48 : c = 48 := UInt8.toNat_inj.1 (by have : (48 : UInt8).toNat = 48 := rfl; omega)
                have hr : r = [] := by
                  cases r with
                  | nil => rfl
                  | cons d t => exact absurd ⟨by rw [hc48]; rfl, by simp⟩ h3
                subst hr
                rw [hz] at hA
                simp only [accN, Option.some.injEq] at hA
                subst hA
                rw [Lib.decDigits_one (by omega), hc48]
                rfl
              · rw [accN_back r _ u hz hd.2 hA, Lib.decDigits_one (by omega), dig_back c hd.1]
                rfl

theorem hd_hex (n : Nat) (h : n < 16) : hexB (hd n) = true ∧ nib (hd n) = n := (hd_eq n h (hd n)).1 rfl
theorem hd_nib (c : UInt8) (h : hexB c = true) : hd (nib c) = c := UInt8.toNat_inj.1 ((hd_eq (nib c) (nib_lt c) c).2 ⟨h, rfl⟩)
theorem hexS_hex : ∀ l : List UInt8, (hexS l).all hexB = true
  | [] => rfl
  | b :: r => by
    have := b.toNat_lt
    simp only [hexS, List.all_cons, (hd_hex (b.toNat / 16) (by omega)).1, (hd_hex (b.toNat % 16) (by omega)).1, hexS_hex r, Bool.and_self]
theorem hexP_hexS : ∀ l : List UInt8, hexP (hexS l) = l
  | [] => rfl
  | b :: r => by
    have := b.toNat_lt
    rw [hexS, hexP, hexP_hexS r, (hd_hex (b.toNat / 16) (by omega)).2, (hd_hex (b.toNat % 16) (by omega)).2, show 16 * (b.toNat / 16) + b.toNat % 16 = b.toNat by omega]
    congr 1
    exact UInt8.ofNat_toNat
theorem hexR_hexS (l : List UInt8) : hexR (hexS l) = (l, 0) := by
  unfold hexR
  rw [if_neg (by rw [hexS_hex l]; simp), if_neg (by rw [hexS_length l]; omega), hexP_hexS l]
theorem hexS_hexP : ∀ l : List UInt8, l.all hexB = true → l.length % 2 = 0 → hexS (hexP l) = l
  | [], _, _ => rfl
  | [a], _, h => by simp at h
  | a :: b :: r, hh, h => by
    simp only [List.all_cons, Bool.and_eq_true] at hh
    have ha := nib_lt a
    have hb := nib_lt b
    have hx : (UInt8.ofNat (16 * nib a + nib b)).toNat = 16 * nib a + nib b := by rw [UInt8.toNat_ofNat']; omega
    rw [hexP, hexS, hx, show (16 * nib a + nib b) / 16 = nib a by omega, show (16 * nib a + nib b) % 16 = nib b by omega, hd_nib a hh.1, hd_nib b hh.2.1, hexS_hexP r hh.2.2 (by simp only [List.length_cons] at h; omega)]
theorem hexR_back (l : List UInt8) (h : (hexR l).2 = 0) : hexS (hexR l).1 = l := by
  unfold hexR at h ⊢
  split
  · rename_i h1; rw [if_pos h1] at h; cases h
  · rename_i h1
    rw [if_neg h1] at h
    split
    · rename_i h2; rw [if_pos h2] at h; cases h
    · rename_i h2
      exact hexS_hexP l (by simpa using h1) (by omega)
end
end Go.Proofs.YtfipdjlalfpbnaaGreatDoor

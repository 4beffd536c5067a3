/-
  Walks and plain words for MacsCookies (texts Nl, Gn, Gq, Tv, Rs, Bd, Lt, Join, Bc). No condition beyond those that each theorem states.
-/
import Derived.Shelf.Strings.Builder1
import Derived.Maps.Own
import Derived.Maps.OwnOps
import Derived.Handy
import Derived.Test.YtfmfnfmhknlpbaaDoorP09
namespace Go.Proofs.YtfmfnfmhknlpbaaDoor
section
open Go.RowKit Go.Deep

theorem accN_append : ∀ (l m : List UInt8) (u : Nat), accN (l ++ m) u = (accN l u).bind (accN m)
  | [], m, u => rfl
  | c :: r, m, u => by
    rw [List.cons_append, accN, accN]
    split
    · rfl
    · exact accN_append r m _
theorem dgt_nat (n : Nat) (h : n < 10) : (UInt8.ofNat (48 + n)).toNat = 48 + n := by rw [UInt8.toNat_ofNat']; omega
theorem accN_one (n v : Nat) (h : n < 10) (hv : v * 10 + n < 18446744073709551616) : accN [UInt8.ofNat (48 + n)] v = some (v * 10 + n) := by
  rw [accN, dgt_nat n h, if_neg (by omega), accN]
  simp
theorem accN_dec (u : Nat) (hu : u < 18446744073709551616) : accN (Lib.decDigits u) 0 = some u := by
  induction u using Nat.strongRecOn with
  | ind u ih =>
    by_cases h : u < 10
    · rw [Lib.decDigits_one h, accN_one u 0 h (by omega)]
      simp
    · rw [dec_split u h, accN_append, ih (u / 10) (by omega) (by omega)]
      show accN _ (u / 10) = _
      rw [accN_one (u % 10) (u / 10) (by omega) (by omega)]
      congr 1
      omega
theorem dec_dig (u : Nat) : (Lib.decDigits u).all digB = true := by
  have hone : ∀ n : Nat, n < 10 → [UInt8.ofNat (48 + n)].all digB = true := fun n h => by
    simp only [List.all_cons, List.all_nil, Bool.and_true]
    unfold digB
    rw [dgt_nat n h]
    simp
    omega
  induction u using Nat.strongRecOn with
  | ind u ih =>
    by_cases h : u < 10
    · rw [Lib.decDigits_one h]; exact hone u h
    · rw [dec_split u h, List.all_append, ih (u / 10) (by omega), hone _ (by omega)]; rfl
theorem dec_ne (u : Nat) : Lib.decDigits u ≠ [] := by
  by_cases h : u < 10
  · rw [Lib.decDigits_one h]; simp
  · rw [dec_split u h]; simp
theorem dec_head (u : Nat) (h0 : 0 < u) : (Lib.decDigits u).head? ≠ some 48 := by
  induction u using Nat.strongRecOn with
  | ind u ih =>
    by_cases h : u < 10
    · rw [Lib.decDigits_one h]
      intro e
      have e2 : UInt8.ofNat (48 + u) = 48 := by simpa using e
      have e3 := congrArg UInt8.toNat e2
      rw [dgt_nat u h] at e3
      have : (48 : UInt8).toNat = 48 := rfl
      omega
    · rw [dec_split u h, List.head?_append]
      have := ih (u / 10) (by omega) (by omega)
      cases hh : (Lib.decDigits (u / 10)).head? with
      | none => rw [List.head?_eq_none_iff] at hh; exact absurd hh (dec_ne _)
      | some x => rw [hh] at this; exact this
theorem numR_dec (u : Nat) (hu : u < 18446744073709551616) : numR (Lib.decDigits u) = (u, 0) := by
  unfold numR
  rw [if_neg (dec_ne u), if_neg (by rw [dec_dig u]; simp), if_neg, accN_dec u hu]
  rintro ⟨h1, h2⟩
  rcases Nat.eq_zero_or_pos u with h | h
  · subst h; rw [Lib.decDigits_one (by omega)] at h2; simp at h2
  · exact dec_head u h h1
theorem dig_back (c : UInt8) (h : digB c = true) : UInt8.ofNat (48 + (c.toNat - 48)) = c := by
  unfold digB at h
  simp only [Bool.and_eq_true, decide_eq_true_eq] at h
  rw [show 48 + (c.toNat - 48) = c.toNat by omega]
  exact UInt8.ofNat_toNat
theorem accN_back : ∀ (l : List UInt8) (v u : Nat), 0 < v → l.all digB = true → accN l v = some u → Lib.decDigits u = Lib.decDigits v ++ l
  | [], v, u, _, _, h => by
    simp only [accN, Option.some.injEq] at h
    rw [h, List.append_nil]
  | c :: r, v, u, hv, hd, h => by
    simp only [List.all_cons, Bool.and_eq_true] at hd
    rw [accN] at h
    split at h
    · cases h
    · have hc := hd.1
      unfold digB at hc
      simp only [Bool.and_eq_true, decide_eq_true_eq] at hc
      have := accN_back r _ u (by omega) hd.2 h
      rw [this, dec_split _ (by omega), show (v * 10 + (c.toNat - 48)) / 10 = v by omega, show (v * 10 + (c.toNat - 48)) % 10 = c.toNat - 48 by omega, dig_back c hd.1, List.append_assoc]
      rfl
theorem numR_back (l : List UInt8) (h : (numR l).2 = 0) : Lib.decDigits (numR l).1 = l := by
  unfold numR at h ⊢
  split
  · rename_i h1; rw [if_pos h1] at h; cases h
  · rename_i h1
    rw [if_neg h1] at h
    split
    · rename_i h2; rw [if_pos h2] at h; cases h
    · rename_i h2
      rw [if_neg h2] at h
      split
      · rename_i h3; rw [if_pos h3] at h; cases h
      · rename_i h3
        rw [if_neg h3] at h
        cases hA : accN l 0 with
        | none => rw [hA] at h; cases h
        | some u =>
          show Lib.decDigits u = l
          cases l with
          | nil => exact absurd rfl h1
          | cons c r =>
            have hd : (c :: r).all digB = true := by simpa using h2
            simp only [List.all_cons, Bool.and_eq_true] at hd
            rw [accN] at hA
            split at hA
            · cases hA
            · have hc := hd.1
              unfold digB at hc
              simp only [Bool.and_eq_true, decide_eq_true_eq] at hc
              rw [Nat.zero_mul, Nat.zero_add] at hA
              rcases Nat.eq_zero_or_pos (c.toNat - 48) with hz | hz
              · have hc48 : c = 48 := UInt8.toNat_inj.1 (by have : (48 : UInt8).toNat = 48 := rfl; omega)
                have hr : r = [] := by
                  cases r with
                  | nil => rfl
                  | cons d t => exact absurd ⟨by rw [hc48]; rfl, by simp⟩ h3
                subst hr
                rw [hz] at hA
                simp only [accN, Option.some.injEq] at hA
                subst hA
                rw [Lib.decDigits_one (by omega), hc48]
                rfl
              · rw [accN_back r _ u hz hd.2 hA, Lib.decDigits_one (by omega), dig_back c hd.1]
                rfl

theorem hd_hex (n : Nat) (h : n < 16) : hexB (hd n) = true ∧ nib (hd n) = n := (hd_eq n h (hd n)).1 rfl
theorem hd_nib (c : UInt8) (h : hexB c = true) : hd (nib c) = c := UInt8.toNat_inj.1 ((hd_eq (nib c) (nib_lt c) c).2 ⟨h, rfl⟩)
theorem hexS_hex : ∀ l : List UInt8, (hexS l).all hexB = true
  | [] => rfl
  | b :: r => by
    have := b.toNat_lt
    simp only [hexS, List.all_cons, (hd_hex (b.toNat / 16) (by omega)).1, (hd_hex (b.toNat % 16) (by omega)).1, hexS_hex r, Bool.and_self]
theorem hexP_hexS : ∀ l : List UInt8, hexP (hexS l) = l
  | [] => rfl
  | b :: r => by
    have := b.toNat_lt
    rw [hexS, hexP, hexP_hexS r, (hd_hex (b.toNat / 16) (by omega)).2, (hd_hex (b.toNat % 16) (by omega)).2, show 16 * (b.toNat / 16) + b.toNat % 16 = b.toNat by omega]
    congr 1
    exact UInt8.ofNat_toNat
theorem hexR_hexS (l : List UInt8) : hexR (hexS l) = (l, 0) := by
  unfold hexR
  rw [if_neg (by rw [hexS_hex l]; simp), if_neg (by rw [hexS_length l]; omega), hexP_hexS l]
theorem hexS_hexP : ∀ l : List UInt8, l.all hexB = true → l.length % 2 = 0 → hexS (hexP l) = l
  | [], _, _ => rfl
  | [a], _, h => by simp at h
  | a :: b :: r, hh, h => by
    simp only [List.all_cons, Bool.and_eq_true] at hh
    have ha := nib_lt a
    have hb := nib_lt b
    have hx : (UInt8.ofNat (16 * nib a + nib b)).toNat = 16 * nib a + nib b := by rw [UInt8.toNat_ofNat']; omega
    rw [hexP, hexS, hx, show (16 * nib a + nib b) / 16 = nib a by omega, show (16 * nib a + nib b) % 16 = nib b by omega, hd_nib a hh.1, hd_nib b hh.2.1, hexS_hexP r hh.2.2 (by simp only [List.length_cons] at h; omega)]
theorem hexR_back (l : List UInt8) (h : (hexR l).2 = 0) : hexS (hexR l).1 = l := by
  unfold hexR at h ⊢
  split
  · rename_i h1; rw [if_pos h1] at h; cases h
  · rename_i h1
    rw [if_neg h1] at h
    split
    · rename_i h2; rw [if_pos h2] at h; cases h
    · rename_i h2
      exact hexS_hexP l (by simpa using h1) (by omega)
end
section
open Go.RowKit Go.Deep

/-- The letter of a kind. -/
def letU (k : Int) : UInt8 := if k = 1 then 48 else if k = 2 then 97 else if k = 3 then 110 else if k = 4 then 120 else if k = 5 then 112 else if k = 6 then 100 else if k = 7 then 104 else if k = 8 then 107 else if k = 9 then 109 else if k = 10 then 115 else if k = 11 then 108 else 0
theorem kind_let (k : Int) (h : 1 ≤ k) (h2 : k ≤ 11) : kindV (letU k).toNat = k := by
  rcases (show k = 1 ∨ k = 2 ∨ k = 3 ∨ k = 4 ∨ k = 5 ∨ k = 6 ∨ k = 7 ∨ k = 8 ∨ k = 9 ∨ k = 10 ∨ k = 11 by omega) with rfl | rfl | rfl | rfl | rfl | rfl | rfl | rfl | rfl | rfl | rfl
  all_goals rfl
theorem let_kind (c : UInt8) (h : kindV c.toNat ≠ 0) : letU (kindV c.toNat) = c := by
  have key : ∀ n : Nat, ((c.toNat : Int) = n) → n < 256 → c = UInt8.ofNat n := by
    intro n e hn
    apply UInt8.toNat_inj.1
    rw [UInt8.toNat_ofNat']
    omega
  unfold kindV at h ⊢
  repeat' split
  all_goals first
    | (rename_i e; rw [key _ e (by decide)]; rfl)
    | (simp_all; done)
def joinL : List ByteArray → List UInt8
  | [] => []
  | [a] => a.data.toList
  | a :: b :: r => a.data.toList ++ 44 :: joinL (b :: r)
/-- The text of a term. -/
noncomputable def txtL (k : Int) (n : Nat) (b : List UInt8) (l : List ByteArray) : List UInt8 :=
  letU k :: (if k = 2 ∨ k = 3 then Lib.decDigits n else if k = 4 then hexS b else if k ≤ 4 then [] else
    40 :: ((if numberedV k = true then Lib.decDigits n ++ (if l = [] then [] else [44]) else []) ++ (joinL l ++ [41])))
def isT (l : List UInt8) : Prop := ∃ nd, rdL (2 * l.length) none l = some (nd, [])
theorem isT_ne {l : List UInt8} (h : isT l) : l ≠ [] ∧ l.head? ≠ some 41 := by
  obtain ⟨nd, h⟩ := h
  obtain ⟨x, e, e2, e3, _⟩ := rdL_local _ _ _ _ _ h
  rw [List.append_nil] at e
  subst e
  exact ⟨e2, e3⟩
theorem isT_on {l : List UInt8} (h : isT l) : ∃ nd, ∀ y g, dl y → 2 * l.length ≤ g → rdL g none (l ++ y) = some (nd, y) := by
  obtain ⟨nd, h⟩ := h
  obtain ⟨x, e, e2, e3, e4⟩ := rdL_local _ _ _ _ _ h
  rw [List.append_nil] at e
  subst e
  exact ⟨nd, e4⟩
theorem isT_of {f : Nat} {z y : List UInt8} {nd : Nd} (h : rdL f none z = some (nd, y)) : ∃ x, z = x ++ y ∧ isT x ∧ x ≠ [] := by
  obtain ⟨x, e, e2, e3, e4⟩ := rdL_local _ _ _ _ _ h
  refine ⟨x, e, ⟨nd, ?_⟩, e2⟩
  have := e4 [] (2 * x.length) (.inl rfl) (Nat.le_refl _)
  rwa [List.append_nil] at this
theorem take_front (x y : List UInt8) : (x ++ y).take ((x ++ y).length - y.length) = x := by
  rw [List.length_append, Nat.add_sub_cancel, List.take_left']
  rfl
theorem bytesOf_data (a : ByteArray) : bytesOf a.data.toList = a := ByteArray.ext (Array.toArray_toList)
/-- Two parts of a Dh that stand in the wrong order. -/
def wrong (k : Int) (l : List ByteArray) : Prop := k = 6 ∧ l.length = 2 ∧ gtB (l.getD 0 ByteArray.empty) (l.getD 1 ByteArray.empty) = true
instance (k : Int) (l : List ByteArray) : Decidable (wrong k l) := by unfold wrong; exact inferInstance
theorem parts_on (k : Int) (n : Nat) : ∀ (l : List ByteArray) (acc : List ByteArray) (y : List UInt8) (g : Nat), l ≠ [] → (∀ p ∈ l, isT p.data.toList) → (k ≠ 6 ∨ 2 ≤ acc.length) → 2 * (joinL l).length + 2 ≤ g →
    rdL g (some (k, n, acc)) (joinL l ++ 41 :: y) = endL k n (acc ++ l) (41 :: y) := by
  intro l
  induction l with
  | nil => intro _ _ _ h; exact absurd rfl h
  | cons a r ih =>
    intro acc y g _ hT hk hg
    obtain ⟨nd, hon⟩ := isT_on (hT a List.mem_cons_self)
    have hne : (isT_ne (hT a List.mem_cons_self)).1 = (isT_ne (hT a List.mem_cons_self)).1 := rfl
    obtain ⟨g, rfl⟩ : ∃ g', g = g' + 1 := ⟨g - 1, by omega⟩
    have hk1 : ∀ part, ¬ (k = 6 ∧ acc.length = 1 ∧ gtB (acc.getLastD ByteArray.empty) part = true) := by
      rintro part ⟨h1, h2, _⟩
      rcases hk with h | h
      · exact h h1
      · omega
    cases r with
    | nil =>
      rw [joinL] at hg ⊢
      rw [rdL_some]
      unfold ptL
      rw [hon (41 :: y) g (dl_cons (by decide)) (by omega)]
      simp only
      rw [take_front, if_neg (hk1 _), if_neg (by simp), bytesOf_data]
    | cons b r =>
      rw [joinL] at hg ⊢
      rw [rdL_some]
      unfold ptL
      rw [List.append_assoc, List.cons_append, hon (44 :: (joinL (b :: r) ++ 41 :: y)) g (dl_cons (by decide)) (by rw [List.length_append] at hg; omega)]
      simp only
      rw [take_front, if_neg (hk1 _), if_pos (by rfl), bytesOf_data, List.tail_cons]
      have hpos : 1 ≤ a.data.toList.length := by
        have := (isT_ne (hT a List.mem_cons_self)).1
        cases h : a.data.toList with
        | nil => exact absurd h this
        | cons c t => simp
      rw [ih (acc ++ [a]) y g (by simp) (fun p hp => hT p (List.mem_cons_of_mem _ hp)) (by rcases hk with h | h; exact .inl h; right; rw [List.length_append]; omega) (by rw [List.length_append] at hg; simp at hg; omega)]
      rw [List.append_assoc]
      rfl
theorem fits6 (m : Nat) (h : m ≠ 2) : fitsV 6 (m : Int) = false := by
  simp only [fitsV, leastV, mostV]
  rw [Bool.eq_false_iff]
  simp
  omega
theorem parts_all (k : Int) (n : Nat) (l : List ByteArray) (y : List UInt8) (g : Nat) (hl : l ≠ []) (hT : ∀ p ∈ l, isT p.data.toList) (hg : 2 * (joinL l).length + 2 ≤ g) :
    rdL g (some (k, n, [])) (joinL l ++ 41 :: y) = if wrong k l then none else endL k n l (41 :: y) := by
  by_cases hk : k = 6
  · subst hk
    cases l with
    | nil => exact absurd rfl hl
    | cons a r =>
      obtain ⟨nd, hon⟩ := isT_on (hT a List.mem_cons_self)
      obtain ⟨g, rfl⟩ : ∃ g', g = g' + 1 := ⟨g - 1, by omega⟩
      cases r with
      | nil =>
        rw [joinL] at hg ⊢
        rw [rdL_some]
        unfold ptL
        rw [hon (41 :: y) g (dl_cons (by decide)) (by omega)]
        simp only
        rw [take_front, if_neg (by simp), if_neg (by simp), bytesOf_data, if_neg (by rintro ⟨_, h, _⟩; simp at h)]
        rfl
      | cons b r =>
        have hposa : 1 ≤ a.data.toList.length := by
          have := (isT_ne (hT a List.mem_cons_self)).1
          cases h : a.data.toList with
          | nil => exact absurd h this
          | cons c t => simp
        rw [joinL] at hg ⊢
        rw [rdL_some]
        unfold ptL
        rw [List.append_assoc, List.cons_append, hon (44 :: (joinL (b :: r) ++ 41 :: y)) g (dl_cons (by decide)) (by rw [List.length_append] at hg; omega)]
        simp only
        rw [take_front, if_neg (by simp), if_pos (by rfl), bytesOf_data, List.tail_cons, List.nil_append]
        obtain ⟨nd2, hon2⟩ := isT_on (hT b (List.mem_cons_of_mem _ List.mem_cons_self))
        rw [List.length_append] at hg
        simp only [List.length_cons] at hg
        obtain ⟨g, rfl⟩ : ∃ g', g = g' + 1 := ⟨g - 1, by omega⟩
        cases r with
        | nil =>
          rw [joinL] at hg ⊢
          rw [rdL_some]
          unfold ptL
          rw [hon2 (41 :: y) g (dl_cons (by decide)) (by omega)]
          simp only
          rw [take_front, bytesOf_data]
          by_cases hgt : gtB a b = true
          · rw [if_pos (show True ∧ [a].length = 1 ∧ gtB ([a].getLastD ByteArray.empty) b = true from ⟨trivial, rfl, hgt⟩), if_pos (show wrong 6 [a, b] from ⟨rfl, rfl, hgt⟩)]
          · rw [if_neg (show ¬ (True ∧ [a].length = 1 ∧ gtB ([a].getLastD ByteArray.empty) b = true) by rintro ⟨_, _, h⟩; exact hgt h), if_neg (show ¬ wrong 6 [a, b] by rintro ⟨_, _, h⟩; exact hgt h), if_neg (by simp)]
            rfl
        | cons c r =>
          have hposb : 1 ≤ b.data.toList.length := by
            have := (isT_ne (hT b (List.mem_cons_of_mem _ List.mem_cons_self))).1
            cases h : b.data.toList with
            | nil => exact absurd h this
            | cons c t => simp
          have hend : endL 6 n (a :: b :: c :: r) (41 :: y) = none := by
            unfold endL
            simp only
            rw [if_neg]
            rw [fits6 _ (by simp)]
            decide
          rw [if_neg (show ¬ wrong 6 (a :: b :: c :: r) by rintro ⟨_, h, _⟩; simp at h), hend]
          rw [joinL] at hg ⊢
          rw [rdL_some]
          unfold ptL
          rw [List.append_assoc, List.cons_append, hon2 (44 :: (joinL (c :: r) ++ 41 :: y)) g (dl_cons (by decide)) (by rw [List.length_append] at hg; omega)]
          simp only
          split
          · rfl
          · rw [take_front, if_pos (by rfl), bytesOf_data, List.tail_cons]
            rw [parts_on 6 n (c :: r) _ y g (by simp) (fun p hp => hT p (List.mem_cons_of_mem _ (List.mem_cons_of_mem _ hp))) (.inr (by simp)) (by rw [List.length_append] at hg; simp at hg; omega)]
            exact hend
  · rw [parts_on k n l [] y g hl hT (.inl hk) hg, if_neg (by rintro ⟨h, _⟩; exact hk h)]
    rfl
theorem dig_nd (l : List UInt8) (h : l.all digB = true) : l.all nd_ = true := by
  rw [List.all_eq_true] at h ⊢
  intro c hc
  have h2 := h c hc
  unfold digB at h2
  simp only [Bool.and_eq_true, decide_eq_true_eq] at h2
  unfold nd_ del
  rw [Bool.not_eq_true', Bool.or_eq_false_iff, Bool.or_eq_false_iff, beq_eq_false_iff_ne, beq_eq_false_iff_ne, beq_eq_false_iff_ne]
  refine ⟨⟨?_, ?_⟩, ?_⟩
  all_goals
    intro e
    rw [e] at h2
    revert h2
    decide
theorem hex_nd (l : List UInt8) (h : l.all hexB = true) : l.all nd_ = true := by
  rw [List.all_eq_true] at h ⊢
  intro c hc
  have h2 := h c hc
  unfold nd_ del
  rw [Bool.not_eq_true', Bool.or_eq_false_iff, Bool.or_eq_false_iff, beq_eq_false_iff_ne, beq_eq_false_iff_ne, beq_eq_false_iff_ne]
  refine ⟨⟨?_, ?_⟩, ?_⟩
  all_goals
    intro e
    rw [e] at h2
    revert h2
    decide
theorem numK_dec (k : Int) (n : Nat) (h : n < 18446744073709551616) : numK k (Lib.decDigits n) = if allowedV k n = true then some n else none := by
  unfold numK
  rw [numR_dec n h]
  by_cases ha : allowedV k n = true
  · rw [if_pos ⟨rfl, ha⟩, if_pos ha]
  · rw [if_neg (by rintro ⟨_, h⟩; exact ha h), if_neg ha]
theorem openL_at (F : List UInt8 → Option (Nd × List UInt8)) (k : Int) (n : Nat) (z : List UInt8) (h : z.head? ≠ some 41) : openL F k n z = F z := by
  unfold openL; rw [if_neg h]
theorem joinL_head (l : List ByteArray) (hl : l ≠ []) (hT : ∀ p ∈ l, isT p.data.toList) (y : List UInt8) : (joinL l ++ y).head? ≠ some 41 ∧ joinL l ≠ [] := by
  cases l with
  | nil => exact absurd rfl hl
  | cons a r =>
    obtain ⟨h1, h2⟩ := isT_ne (hT a List.mem_cons_self)
    cases r with
    | nil => rw [joinL, head_app h1]; exact ⟨h2, h1⟩
    | cons b r =>
      rw [joinL, List.append_assoc, head_app h1]
      exact ⟨h2, by simp⟩
/-- May a term be of this kind and number, and have these parts? -/
def okV (k : Int) (n : Nat) (l : List ByteArray) : Prop := (numberedV k = true → allowedV k n = true) ∧ fitsV k l.length = true ∧ ¬ wrong k l
instance (k : Int) (n : Nat) (l : List ByteArray) : Decidable (okV k n l) := by unfold okV; exact inferInstance
theorem rd_txt5 (k : Int) (n : Nat) (b : List UInt8) (l : List ByteArray) (g : Nat) (h5 : 5 ≤ k) (h11 : k ≤ 11) (hn : n < 18446744073709551616) (hT : ∀ p ∈ l, isT p.data.toList) (hg : 2 * (txtL k n b l).length + 2 ≤ g) :
    rdL g none (txtL k n b l) = if okV k n l then some ((k, (if numberedV k = true then n else 0), [], l), []) else none := by
  obtain ⟨g, rfl⟩ : ∃ g', g = g' + 1 := ⟨g - 1, by omega⟩
  have hk := kind_let k (by omega) h11
  have hz : fitsV k (([] : List ByteArray).length : Nat) = decide (k = 11) := fits_zero h5 h11
  unfold txtL at hg ⊢
  rw [if_neg (by omega), if_neg (by omega), if_neg (by omega)] at hg ⊢
  rw [rdL_none]
  simp only [List.length_cons, List.length_append] at hg
  have hmain : ∀ (m : Nat) (l' : List UInt8), l' = joinL l ++ [41] → (numberedV k = true → m = n ∧ l ≠ []) → (numberedV k = false → m = 0) → (numberedV k = true → allowedV k n = true) →
      openL (rdL g (some (k, m, []))) k m l' = if okV k n l then some ((k, (if numberedV k = true then n else 0), [], l), []) else none := by
    rintro m l' rfl hm1 hm2 ha
    have hm : m = if numberedV k = true then n else 0 := by
      cases h : numberedV k with
      | true => rw [if_pos rfl]; exact (hm1 h).1
      | false => rw [if_neg (by decide)]; exact hm2 h
    rw [← hm]
    by_cases hl : l = []
    · subst hl
      unfold openL
      rw [if_pos (by rfl)]
      show endL k m [] [41] = _
      unfold endL
      simp only
      by_cases hf : fitsV k (([] : List ByteArray).length : Nat) = true
      · rw [if_pos hf, if_pos ⟨ha, hf, by rintro ⟨_, h, _⟩; simp at h⟩]
      · rw [if_neg hf, if_neg (by rintro ⟨_, h, _⟩; exact hf h)]
    · obtain ⟨h1, h2⟩ := joinL_head l hl hT [41]
      rw [openL_at _ _ _ _ h1, parts_all k m l [] g hl hT (by omega)]
      by_cases hw : wrong k l
      · rw [if_pos hw, if_neg (by rintro ⟨_, _, h⟩; exact h hw)]
      · rw [if_neg hw]
        unfold endL
        simp only
        by_cases hf : fitsV k l.length = true
        · rw [if_pos hf, if_pos ⟨ha, hf, hw⟩]
        · rw [if_neg hf, if_neg (by rintro ⟨_, h, _⟩; exact hf h)]
  cases hnb : numberedV k with
  | true =>
    rw [hnb] at hmain hg
    have hw := dig_nd _ (dec_dig n)
    rw [if_pos rfl] at hg ⊢
    by_cases hl : l = []
    · subst hl
      have hk8 : k ≠ 11 := by intro e; subst e; cases hnb
      rw [if_pos rfl, List.append_nil, if_neg (show ¬ okV k n [] by rintro ⟨_, h, _⟩; rw [hz] at h; exact hk8 (of_decide_eq_true h))]
      obtain ⟨t1, t2⟩ := tw_dl (Lib.decDigits n) [41] hw (dl_cons (by decide))
      rw [tmL, hk, if_neg (by omega), if_neg (by omega), if_neg (by omega), if_neg (by omega), if_neg (show ¬ ((40 :: (Lib.decDigits n ++ (joinL [] ++ [41]))).head? ≠ some 40) from fun h => h rfl), if_pos hnb, List.tail_cons]
      rw [show joinL [] ++ [41] = [41] from rfl, t1, t2]
      cases numK k (Lib.decDigits n) with
      | none => rfl
      | some m => simp
    · rw [if_neg hl, List.append_assoc, List.singleton_append]
      by_cases ha : allowedV k n = true
      · have hK := numK_dec k n hn
        rw [if_pos ha] at hK
        rw [tmL_num _ _ _ _ n (by rw [hk]; exact h5) (by rw [hk]; exact hnb) hw (by rw [hk]; exact hK), hk]
        have h := hmain n _ rfl (fun _ => ⟨rfl, hl⟩) (fun h => by cases h) (fun _ => ha)
        exact h
      · have hK := numK_dec k n hn
        rw [if_neg ha] at hK
        rw [if_neg (show ¬ okV k n l by rintro ⟨h, _⟩; exact ha (h hnb))]
        obtain ⟨t1, t2⟩ := tw_dl (Lib.decDigits n) (44 :: (joinL l ++ [41])) hw (dl_cons (by decide))
        rw [tmL, hk, if_neg (by omega), if_neg (by omega), if_neg (by omega), if_neg (by omega), if_neg (show ¬ ((40 :: (Lib.decDigits n ++ 44 :: (joinL l ++ [41]))).head? ≠ some 40) from fun h => h rfl), if_pos hnb, List.tail_cons, t1, hK]
  | false =>
    rw [hnb] at hmain
    rw [if_neg (by decide), List.nil_append, tmL_bare _ _ _ (by rw [hk]; exact h5) (by rw [hk]; exact hnb), hk]
    exact hmain 0 _ rfl (fun h => by cases h) (fun _ => rfl) (fun h => by cases h)
theorem rd_txt4 (k : Int) (n : Nat) (b : List UInt8) (l : List ByteArray) (g : Nat) (h1 : 1 ≤ k) (h4 : k ≤ 4) (hn : n < 18446744073709551616) (hg : 1 ≤ g) :
    rdL g none (txtL k n b l) = if (numberedV k = true → allowedV k n = true) then some ((k, (if numberedV k = true then n else 0), (if k = 4 then b else []), []), []) else none := by
  obtain ⟨g, rfl⟩ : ∃ g', g = g' + 1 := ⟨g - 1, by omega⟩
  have hk := kind_let k h1 (by omega)
  rw [rdL_none]
  unfold txtL
  rw [tmL, hk]
  rcases (show k = 1 ∨ k = 2 ∨ k = 3 ∨ k = 4 by omega) with rfl | rfl | rfl | rfl
  · rfl
  · have hw := dig_nd _ (dec_dig n)
    obtain ⟨t1, t2⟩ := tw_dl (Lib.decDigits n) [] hw (.inl rfl)
    rw [List.append_nil] at t1 t2
    rw [if_neg (by decide), if_neg (by decide), if_pos (by decide), if_pos (by decide), t1, t2, numK_dec _ n hn]
    by_cases ha : allowedV 2 n = true
    · rw [if_pos ha, if_pos (fun _ => ha)]; rfl
    · rw [if_neg ha, if_neg (fun h => ha (h rfl))]
  · have hw := dig_nd _ (dec_dig n)
    obtain ⟨t1, t2⟩ := tw_dl (Lib.decDigits n) [] hw (.inl rfl)
    rw [List.append_nil] at t1 t2
    rw [if_neg (by decide), if_neg (by decide), if_pos (by decide), if_pos (by decide), t1, t2, numK_dec _ n hn]
    by_cases ha : allowedV 3 n = true
    · rw [if_pos ha, if_pos (fun _ => ha)]; rfl
    · rw [if_neg ha, if_neg (fun h => ha (h rfl))]
  · have hw := hex_nd _ (hexS_hex b)
    obtain ⟨t1, t2⟩ := tw_dl (hexS b) [] hw (.inl rfl)
    rw [List.append_nil] at t1 t2
    have ht : (if (4 : Int) = 2 ∨ (4 : Int) = 3 then Lib.decDigits n else if (4 : Int) = 4 then hexS b else if (4 : Int) ≤ 4 then [] else
      40 :: ((if numberedV 4 = true then Lib.decDigits n ++ (if l = [] then [] else [44]) else []) ++ (joinL l ++ [41]))) = hexS b := by
      rw [if_neg (by decide), if_pos rfl]
    rw [ht, if_neg (by decide), if_neg (by decide), if_neg (by decide), if_pos (by decide), t1, t2, hexR_hexS, if_pos rfl, if_pos (fun h => by cases h)]
    rfl
theorem numK_some {k : Int} {w : List UInt8} {n : Nat} (h : numK k w = some n) : w = Lib.decDigits n ∧ allowedV k n = true ∧ n < 18446744073709551616 := by
  unfold numK at h
  split at h
  · rename_i hc
    simp only [Option.some.injEq] at h
    subst h
    exact ⟨(numR_back w hc.1).symm, hc.2, numR_lt w⟩
  · cases h
/-- What the parts are, of which a text was read. -/
theorem parts_back : ∀ (f : Nat) (k : Int) (n : Nat) (acc : List ByteArray) (z y : List UInt8) (nd : Nd), rdL f (some (k, n, acc)) z = some (nd, y) →
    ∃ l, l ≠ [] ∧ z = joinL l ++ 41 :: y ∧ nd = (k, n, [], acc ++ l) ∧ fitsV k (acc ++ l).length = true ∧ ∀ p ∈ l, isT p.data.toList := by
  intro f
  induction f with
  | zero => intro _ _ _ _ _ _ h; cases h
  | succ f ih =>
    intro k n acc z y nd h
    rw [rdL_some] at h
    unfold ptL at h
    split at h
    · cases h
    · rename_i nd1 z1 hq
      obtain ⟨x, e, hx, hne⟩ := isT_of hq
      rw [e, take_front] at h
      have hxT : isT (bytesOf x).data.toList := by
        have : (bytesOf x).data.toList = x := rfl
        rw [this]; exact hx
      split at h
      · cases h
      · split at h
        · rename_i h44
          obtain ⟨l, hl, d1, d2, d3, d4⟩ := ih _ _ _ _ _ _ h
          refine ⟨bytesOf x :: l, by simp, ?_, ?_, ?_, ?_⟩
          · rw [e, head_tail h44, d1]
            cases l with
            | nil => exact absurd rfl hl
            | cons b r =>
              rw [joinL, List.append_assoc]
              rfl
          · rw [d2, List.append_assoc]; rfl
          · rw [List.append_assoc] at d3; exact d3
          · intro p hp
            rcases List.mem_cons.1 hp with rfl | hp
            · exact hxT
            · exact d4 p hp
        · obtain ⟨d1, d2, d3⟩ := endL_some h
          refine ⟨[bytesOf x], by simp, ?_, d3, d2, ?_⟩
          · rw [e, d1]; rfl
          · intro p hp
            rw [List.mem_singleton.1 hp]; exact hxT
/-- What was read is the text of what it was read as. -/
theorem rd_back (f : Nat) (z : List UInt8) (k : Int) (n : Nat) (b : List UInt8) (l : List ByteArray) (h : rdL f none z = some ((k, n, b, l), [])) :
    z = txtL k n b l ∧ 1 ≤ k ∧ k ≤ 11 ∧ okV k n l ∧ n < 18446744073709551616 ∧ (numberedV k = false → n = 0) ∧ (k ≠ 4 → b = []) ∧ (k ≤ 4 → l = []) ∧ (∀ p ∈ l, isT p.data.toList) := by
  have hwhole : isT z := by
    obtain ⟨x, e, hx, _⟩ := isT_of h
    rw [List.append_nil] at e
    rw [e]; exact hx
  cases f with
  | zero => cases h
  | succ f =>
    rw [rdL_none] at h
    cases z with
    | nil => cases h
    | cons c r =>
      rw [tmL] at h
      have hkr := kind_le (c.toNat : Int)
      split at h
      · cases h
      rename_i h0
      have hlet := let_kind c h0
      split at h
      · rename_i h1
        simp only [Option.some.injEq, Prod.mk.injEq] at h
        obtain ⟨⟨rfl, rfl, rfl, rfl⟩, rfl⟩ := h
        refine ⟨?_, by omega, by omega, ⟨by decide, by decide, by rintro ⟨h, _⟩; cases h⟩, by decide, fun _ => rfl, fun _ => rfl, fun _ => rfl, fun p hp => by cases hp⟩
        unfold txtL
        rw [h1] at hlet
        rw [hlet]
        rfl
      rename_i h1
      split at h
      · rename_i h23
        split at h
        · cases h
        · rename_i m hm
          simp only [Option.some.injEq, Prod.mk.injEq] at h
          obtain ⟨⟨hk, rfl, rfl, rfl⟩, hd⟩ := h
          obtain ⟨w1, w2, w3⟩ := numK_some hm
          have hs := tw_split r
          rw [hd, List.append_nil] at hs
          rw [hk] at hlet h23 w2
          have hk4 : k ≤ 4 := by omega
          refine ⟨?_, by omega, by omega, ⟨fun _ => w2, ?_, by rintro ⟨h, _⟩; omega⟩, w3, ?_, fun _ => rfl, fun _ => rfl, fun p hp => by cases hp⟩
          · unfold txtL
            rw [hlet, if_pos h23, ← w1, ← hs]
          · rcases h23 with rfl | rfl <;> decide
          · intro h; rcases h23 with rfl | rfl <;> cases h
      rename_i h23
      split at h
      · rename_i h4
        split at h
        · rename_i hx
          simp only [Option.some.injEq, Prod.mk.injEq] at h
          obtain ⟨⟨rfl, rfl, rfl, rfl⟩, hd⟩ := h
          have hs := tw_split r
          rw [hd, List.append_nil] at hs
          rw [h4] at hlet
          refine ⟨?_, by omega, by omega, ⟨by decide, by decide, by rintro ⟨h, _⟩; cases h⟩, by decide, fun _ => rfl, fun h => absurd rfl h, fun _ => rfl, fun p hp => by cases hp⟩
          unfold txtL
          rw [hlet, if_neg (by decide), if_pos rfl, hexR_back _ hx, ← hs]
        · cases h
      rename_i h4
      split at h
      · cases h
      rename_i h40
      have hr := head_tail (Decidable.byContradiction h40)
      have hopen : ∀ (m : Nat) (z1 : List UInt8), openL (rdL f (some (kindV c.toNat, m, []))) (kindV c.toNat) m z1 = some ((k, n, b, l), []) →
          z1 = joinL l ++ [41] ∧ k = kindV c.toNat ∧ n = m ∧ b = [] ∧ fitsV k l.length = true ∧ ∀ p ∈ l, isT p.data.toList := by
        intro m z1 h1
        unfold openL at h1
        split at h1
        · obtain ⟨e1, e2, e3⟩ := endL_some h1
          simp only [Prod.mk.injEq] at e3
          obtain ⟨rfl, rfl, rfl, rfl⟩ := e3
          exact ⟨e1, rfl, rfl, rfl, e2, fun p hp => by cases hp⟩
        · obtain ⟨l', hl', e1, e2, e3, e4⟩ := parts_back _ _ _ _ _ _ _ h1
          simp only [Prod.mk.injEq, List.nil_append] at e2
          obtain ⟨rfl, rfl, rfl, rfl⟩ := e2
          exact ⟨e1, rfl, rfl, rfl, e3, e4⟩
      -- the text, and from it the order of a Dh's parts
      have hfin : ∀ (hz : c :: r = txtL k n b l) (hk : k = kindV c.toNat) (hn : n < 18446744073709551616) (hT : ∀ p ∈ l, isT p.data.toList), okV k n l := by
        intro hz hk hn hT
        obtain ⟨nd, hw⟩ := isT_on hwhole
        have h1 := hw [] (2 * (c :: r).length + 2) (.inl rfl) (by omega)
        rw [List.append_nil, hz, rd_txt5 k n b l _ (by omega) (by omega) hn hT (by omega)] at h1
        split at h1
        · assumption
        · cases h1
      split at h
      · rename_i hnb
        split at h
        · cases h
        · rename_i m hm
          split at h
          · cases h
          · rename_i h44
            have h44' := head_tail (Decidable.byContradiction h44)
            obtain ⟨e1, e2, e3, e4, e5, e6⟩ := hopen _ _ h
            subst e3 e4
            obtain ⟨w1, w2, w3⟩ := numK_some hm
            rw [← e2] at hlet hnb w2 hkr h0 h1 h23 h4
            have hl : l ≠ [] := by
              rintro rfl
              rw [show (([] : List ByteArray).length : Int) = 0 from rfl, fits_zero (by omega) (by omega)] at e5
              have := of_decide_eq_true e5
              subst this
              cases hnb
            have hz : c :: r = txtL k n [] l := by
              unfold txtL
              rw [hlet, if_neg h23, if_neg h4, if_neg (by omega), if_pos hnb, if_neg hl, ← w1, List.append_assoc, List.singleton_append, ← e1, ← h44', ← tw_split, ← hr]
            exact ⟨hz, by omega, by omega, hfin hz e2 w3 e6, w3, (fun h => by rw [hnb] at h; cases h), fun _ => rfl, (fun h => by omega), e6⟩
      · rename_i hnb
        obtain ⟨e1, e2, e3, e4, e5, e6⟩ := hopen _ _ h
        subst e3 e4
        rw [← e2] at hlet hnb hkr h0 h1 h23 h4
        have hz : c :: r = txtL k 0 [] l := by
          unfold txtL
          rw [hlet, if_neg h23, if_neg h4, if_neg (by omega), if_neg hnb, List.nil_append, ← e1, ← hr]
        exact ⟨hz, by omega, by omega, hfin hz e2 (by decide) e6, by decide, fun _ => rfl, fun _ => rfl, fun h => by omega, e6⟩
end
section
open Go.RowKit Go.Deep

theorem less_asym : ∀ a b : List UInt8, Op.bytesLess a b = true → Op.bytesLess b a = false
  | _, [], h => by simp [Op.bytesLess] at h
  | [], _ :: _, _ => rfl
  | a :: x, b :: y, h => by
    simp only [Op.bytesLess, Bool.or_eq_true, decide_eq_true_eq, Bool.and_eq_true, beq_iff_eq] at h
    simp only [Op.bytesLess, Bool.or_eq_false_iff, decide_eq_false_iff_not, Bool.and_eq_false_imp, beq_iff_eq]
    rcases h with h | ⟨rfl, h⟩
    · refine ⟨?_, ?_⟩
      · intro h2
        have h3 : a.toNat < b.toNat := h
        have h4 : b.toNat < a.toNat := h2
        omega
      · rintro rfl
        have h3 : b.toNat < b.toNat := h
        omega
    · refine ⟨?_, fun _ => less_asym x y h⟩
      intro h2
      have h3 : a.toNat < a.toNat := h2
      omega
theorem less_total : ∀ a b : List UInt8, Op.bytesLess a b = false → Op.bytesLess b a = false → a = b
  | [], [], _, _ => rfl
  | [], _ :: _, h, _ => by simp [Op.bytesLess] at h
  | _ :: _, [], _, h => by simp [Op.bytesLess] at h
  | a :: x, b :: y, h, h2 => by
    simp only [Op.bytesLess, Bool.or_eq_false_iff, decide_eq_false_iff_not, Bool.and_eq_false_imp, beq_iff_eq] at h h2
    have e : a = b := by
      apply UInt8.toNat_inj.1
      have h3 : ¬ a.toNat < b.toNat := h.1
      have h4 : ¬ b.toNat < a.toNat := h2.1
      omega
    subst e
    rw [less_total x y (h.2 rfl) (h2.2 rfl)]
theorem gt_iff (a b : ByteArray) : gtB a b = true ↔ Op.bytesLess b.data.toList a.data.toList = true := by
  unfold gtB
  rw [ByteArray.toList_eq, ByteArray.toList_eq, Bool.not_eq_true', Bool.or_eq_false_iff]
  constructor
  · rintro ⟨h1, h2⟩
    cases h : Op.bytesLess b.data.toList a.data.toList with
    | true => rfl
    | false =>
      rw [less_total _ _ h1 h] at h2
      simp at h2
  · intro h
    have h1 := less_asym _ _ h
    refine ⟨h1, ?_⟩
    rw [beq_eq_false_iff_ne]
    intro e
    rw [e] at h h1
    rw [h] at h1
    cases h1
theorem gt_asym {a b : ByteArray} (h : gtB a b = true) : gtB b a = false := by
  rw [Bool.eq_false_iff]
  intro h2
  have h3 := less_asym _ _ ((gt_iff a b).1 h)
  rw [(gt_iff b a).1 h2] at h3
  cases h3
/-- The parts of a Dh in their order. -/
def sortV (k : Int) (l : List ByteArray) : List ByteArray := if wrong k l then [l.getD 1 ByteArray.empty, l.getD 0 ByteArray.empty] else l
theorem sort_right (k : Int) (l : List ByteArray) : ¬ wrong k (sortV k l) := by
  unfold sortV
  by_cases h : wrong k l
  · rw [if_pos h]
    obtain ⟨h1, h2, h3⟩ := h
    rintro ⟨_, _, h4⟩
    rw [show ([l.getD 1 ByteArray.empty, l.getD 0 ByteArray.empty].getD 0 ByteArray.empty) = l.getD 1 ByteArray.empty from rfl, show ([l.getD 1 ByteArray.empty, l.getD 0 ByteArray.empty].getD 1 ByteArray.empty) = l.getD 0 ByteArray.empty from rfl, gt_asym h3] at h4
    cases h4
  · rw [if_neg h]; exact h
theorem sort_len (k : Int) (l : List ByteArray) : (sortV k l).length = l.length := by
  unfold sortV
  split
  · rename_i h
    rw [h.2.1]; rfl
  · rfl
theorem sort_mem (k : Int) (l : List ByteArray) (p : ByteArray) : p ∈ sortV k l ↔ p ∈ l := by
  unfold sortV
  split
  · rename_i h
    obtain ⟨_, h2, _⟩ := h
    cases l with
    | nil => simp at h2
    | cons a r =>
      cases r with
      | nil => simp at h2
      | cons b r =>
        cases r with
        | cons c r => simp at h2
        | nil => simp [or_comm]
  · exact Iff.rfl
theorem sort_not6 {k : Int} (h : k ≠ 6) (l : List ByteArray) : sortV k l = l := by unfold sortV; rw [if_neg (by rintro ⟨a, _⟩; exact h a)]
theorem txt_len5 (k : Int) (n : Nat) (b : List UInt8) (l : List ByteArray) (h : 5 ≤ k) : (joinL l).length + 3 ≤ (txtL k n b l).length := by
  unfold txtL
  rw [if_neg (by omega), if_neg (by omega), if_neg (by omega)]
  simp only [List.length_cons, List.length_append, List.length_nil]
  omega
theorem join_mem (l : List ByteArray) (p : ByteArray) (h : p ∈ l) : p.size ≤ (joinL l).length := by
  induction l with
  | nil => cases h
  | cons a r ih =>
    have hsz : ∀ a : ByteArray, a.data.toList.length = a.size := fun _ => rfl
    cases r with
    | nil => rw [List.mem_singleton.1 h, joinL, hsz]; exact Nat.le_refl _
    | cons b r =>
      rw [joinL, List.length_append, List.length_cons, hsz]
      rcases List.mem_cons.1 h with h | h
      · rw [h]; omega
      · have := ih h; omega
theorem isT_parse (s : ByteArray) (h : s.size ≤ 65536) : isT s.data.toList ↔ ∃ nd, parseV s = some nd := by
  rw [parse_list, if_neg (by omega)]
  have hsz : s.data.toList.length = s.size := rfl
  constructor
  · intro hT
    obtain ⟨nd, hon⟩ := isT_on hT
    have := hon [] (2 * s.size + 2) (.inl rfl) (by omega)
    rw [List.append_nil] at this
    rw [this]
    exact ⟨nd, rfl⟩
  · rintro ⟨nd, h⟩
    unfold whole at h
    split at h
    · rename_i hq
      obtain ⟨x, e, hx, _⟩ := isT_of hq
      rw [List.append_nil] at e
      rw [e]; exact hx
    · cases h
/-- The text of a term, if there is one. -/
noncomputable def makeV (k : Int) (n : Nat) (b : List UInt8) (l : List ByteArray) : ByteArray :=
  if 1 ≤ k ∧ k ≤ 11 ∧ (numberedV k = true → allowedV k n = true) ∧ fitsV k l.length = true ∧ (∀ p ∈ l, (parseV p).isSome = true) ∧ (txtL k n b (sortV k l)).length ≤ 65536 then bytesOf (txtL k n b (sortV k l)) else ByteArray.empty
theorem parse_size {s : ByteArray} {nd : Nd} (h : parseV s = some nd) : s.size ≤ 65536 := by
  unfold parseV at h
  split at h
  · cases h
  · omega
theorem some_isT {p : ByteArray} (h : (parseV p).isSome = true) : isT p.data.toList := by
  obtain ⟨nd, h⟩ := Option.isSome_iff_exists.1 h
  exact (isT_parse p (parse_size h)).2 ⟨nd, h⟩
theorem bytesOf_size (l : List UInt8) : (bytesOf l).size = l.length := by
  show l.toArray.size = l.length
  simp
theorem fits4 {k : Int} (h1 : 1 ≤ k) (h4 : k ≤ 4) (l : List ByteArray) : fitsV k l.length = true ↔ l = [] := by
  rcases (show k = 1 ∨ k = 2 ∨ k = 3 ∨ k = 4 by omega) with rfl | rfl | rfl | rfl
  all_goals
    simp only [fitsV, leastV, mostV]
    cases l with
    | nil => simp
    | cons a r => simp <;> try omega
/-- The text of a kind, whose parts are terms, as a term. -/
theorem parse_txt (k : Int) (n : Nat) (b : List UInt8) (l : List ByteArray) (h1 : 1 ≤ k) (h11 : k ≤ 11) (hn : n < 18446744073709551616) (hT : ∀ p ∈ l, (parseV p).isSome = true) (h4 : k ≤ 4 → l = []) :
    parseV (bytesOf (txtL k n b l)) = if okV k n l ∧ (txtL k n b l).length ≤ 65536 then some (k, (if numberedV k = true then n else 0), (if k = 4 then b else []), l) else none := by
  rw [parse_list, bytesOf_size]
  by_cases hlen : (txtL k n b l).length ≤ 65536
  · rw [if_neg (by omega)]
    show whole (rdL _ none (txtL k n b l)) = _
    by_cases hk : k ≤ 4
    · have hl := h4 hk
      subst hl
      rw [rd_txt4 k n b [] _ h1 hk hn (by omega)]
      have hok : okV k n [] ↔ (numberedV k = true → allowedV k n = true) := by
        unfold okV
        constructor
        · exact fun h => h.1
        · exact fun h => ⟨h, (fits4 h1 hk []).2 rfl, by rintro ⟨_, h, _⟩; simp at h⟩
      by_cases ha : (numberedV k = true → allowedV k n = true)
      · rw [if_pos ha, if_pos (show okV k n [] ∧ (txtL k n b []).length ≤ 65536 from ⟨hok.2 ha, hlen⟩)]; rfl
      · rw [if_neg ha, if_neg (show ¬ (okV k n [] ∧ (txtL k n b []).length ≤ 65536) by rintro ⟨h, _⟩; exact ha (hok.1 h))]; rfl
    · rw [rd_txt5 k n b l _ (by omega) h11 hn (fun p hp => some_isT (hT p hp)) (Nat.le_refl _)]
      by_cases ha : okV k n l
      · rw [if_pos ha, if_pos (show okV k n l ∧ (txtL k n b l).length ≤ 65536 from ⟨ha, hlen⟩), if_neg (show ¬ k = 4 by omega)]; rfl
      · rw [if_neg ha, if_neg (show ¬ (okV k n l ∧ (txtL k n b l).length ≤ 65536) by rintro ⟨h, _⟩; exact ha h)]; rfl
  · rw [if_pos (by omega), if_neg (by rintro ⟨_, h⟩; exact hlen h)]
/-- What is made is read. -/
theorem make_read {k : Int} {n : Nat} {b : List UInt8} {l : List ByteArray} (hn : n < 18446744073709551616) (h : makeV k n b l ≠ ByteArray.empty) :
    parseV (makeV k n b l) = some (k, (if numberedV k = true then n else 0), (if k = 4 then b else []), sortV k l) := by
  unfold makeV at h ⊢
  split at h
  · rename_i hc
    obtain ⟨h1, h2, h3, h4, h5, h6⟩ := hc
    rw [if_pos ⟨h1, h2, h3, h4, h5, h6⟩]
    rw [parse_txt k n b (sortV k l) h1 h2 hn (fun p hp => h5 p ((sort_mem k l p).1 hp)) (fun hk => by rw [sort_not6 (by omega)]; exact (fits4 h1 hk l).1 h4)]
    rw [if_pos ⟨⟨h3, by rw [sort_len]; exact h4, sort_right k l⟩, h6⟩]
  · exact absurd rfl h
/-- What is read is made anew of what it was read as. -/
theorem read_make {s : ByteArray} {k : Int} {n : Nat} {b : List UInt8} {l : List ByteArray} (h : parseV s = some (k, n, b, l)) :
    makeV k n b l = s ∧ 1 ≤ k ∧ k ≤ 11 ∧ fitsV k l.length = true ∧ n < 18446744073709551616 ∧ (numberedV k = false → n = 0) ∧ (k ≠ 4 → b = []) ∧ (∀ p ∈ l, (parseV p).isSome = true) ∧ (∀ p ∈ l, p.size ≤ s.size) ∧ ¬ wrong k l := by
  have hs := parse_size h
  rw [parse_list, if_neg (by omega)] at h
  have hq : rdL (2 * s.size + 2) none s.data.toList = some ((k, n, b, l), []) := by
    unfold whole at h
    split at h
    · rename_i hq
      simp only [Option.some.injEq] at h
      rw [hq, h]
    · cases h
  obtain ⟨h1, h2, h3, h4, h5, h6, h7, h8, h9⟩ := rd_back _ _ _ _ _ _ hq
  have hsz : s.data.toList.length = s.size := rfl
  have hsm : ∀ p ∈ l, p.size ≤ s.size := by
    intro p hp
    by_cases hk : k ≤ 4
    · rw [h8 hk] at hp; cases hp
    · have a := join_mem l p hp
      have b := txt_len5 k n b l (by omega)
      rw [← h1] at b
      omega
  have hps : ∀ p ∈ l, (parseV p).isSome = true := by
    intro p hp
    obtain ⟨nd, e⟩ := (isT_parse p (by have := hsm p hp; omega)).1 (h9 p hp)
    rw [e]; rfl
  have hsort : sortV k l = l := by unfold sortV; rw [if_neg h4.2.2]
  refine ⟨?_, h2, h3, h4.2.1, h5, h6, h7, hps, hsm, h4.2.2⟩
  unfold makeV
  rw [hsort, if_pos ⟨h2, h3, h4.1, h4.2.1, hps, by rw [← h1]; omega⟩, ← h1]
  exact bytesOf_data s
end
section
open Go.RowKit Go.Deep

/-- Two texts the same? -/
def eqB (a b : ByteArray) : Bool := a.toList == b.toList
def signT (t key u : ByteArray) : Bool := match parseV t with
  | some (k, _, _, l) => decide (k = 9) && eqB (l.getD 0 ByteArray.empty) key && eqB (l.getD 1 ByteArray.empty) u
  | none => false
/-- The texts of a slice, as cells. -/
theorem rd_strs {w : World} {N : List Nat} {A : Option Addr} {n cap : Nat} {l : List ByteArray} (h : Rd w N (.slice A n cap) (strs l)) (h0 : 0 < l.length) :
    ∃ g o, A = some ⟨g, o, none⟩ ∧ n = l.length ∧ ∀ i, i < l.length → w.cell? ⟨g, o + i, none⟩ = some (.string (l.getD i ByteArray.empty)) := by
  obtain ⟨h1, _, _, h2⟩ := h.at_
  have key : ∀ i, i < l.length → (strs l)[i]? = some (.string (l.getD i ByteArray.empty)) := by
    intro i hi
    simp [strs, List.getElem?_eq_getElem hi]
  obtain ⟨g, o, hA, _, _, _⟩ := h2 0 _ (key 0 h0)
  refine ⟨g, o, hA, by rw [h1, strs_length], fun i hi => ?_⟩
  obtain ⟨g', o', hA', _, _, hc⟩ := h2 i _ (key i hi)
  rw [hA] at hA'
  injection hA' with hA'
  injection hA' with e1 e2
  subst e1 e2
  exact hc

set_option maxRecDepth 100000 in
set_option maxHeartbeats 3200000 in
theorem Signed_any (w : World) (t key u : ByteArray) (hs : t.size ≤ maxLen) : Calls Tryd.prog 24 #[.string t, .string key, .string u] w (RetB (signT t key u) w) := by
  have HP := hide (parse_any w t hs)
  cases hp : parseV t with
  | none =>
    rw [hp] at HP
    have HV := hide (show signT t key u = false by unfold signT; rw [hp])
    clear hp
    go_enter Tryd.func24, Tryd.ntmps24
    go_wp2_with (go_at_call 61; refine HP.out.mono ?_; rintro e w1 ⟨rfl, ho⟩; unfold nd0; have HO := hide ho; clear ho)
    go_ret
    exact retb HV.out (HO.out.alloc _)
  | some nd =>
    obtain ⟨k, n, bs, parts⟩ := nd
    have hm := (read_make hp).2.2.2.1
    rw [hp] at HP
    by_cases hk : k = 9
    · subst hk
      have hl : parts.length = 2 := by
        simp only [fitsV, leastV, mostV] at hm
        simp at hm
        omega
      obtain ⟨p0, p1, rfl⟩ : ∃ a b, parts = [a, b] := by
        match parts, hl with
        | [a, b], _ => exact ⟨a, b, rfl⟩
      have HV := hide (show signT t key u = (eqB p0 key && eqB p1 u) by unfold signT; rw [hp]; rfl)
      clear hp hm hl
      unfold eqB at HV
      rcases Bool.eq_false_or_eq_true (p0.toList == key.toList) with e0 | e0
      all_goals
        rcases Bool.eq_false_or_eq_true (p1.toList == u.toList) with e1 | e1
        all_goals
          rw [e0, e1] at HV
          go_enter Tryd.func24, Tryd.ntmps24
          go_wp2_with (go_at_call 61; refine HP.out.mono ?_; rintro e w1 ⟨bv, pv, rfl, ho, hb, hp⟩; obtain ⟨A, cap, rfl, _, _⟩ := (hb [] (by simp)).formb; obtain ⟨A2, cap2, rfl, _, _⟩ := (hp [] (by simp)).form; obtain ⟨g, o, rfl, _, hc⟩ := rd_strs ((hp [] (by simp)).only ((Only.refl [] _).alloc (.cells #[.int .i64 9, .int .u64 (n : Nat), .slice A bs.length cap, .slice A2 2 cap2] 81)) (by simp)) (by simp); have s0 := hc 0 (by simp); have s1 := hc 1 (by simp); simp at s0 s1; have HO := hide ho; clear ho hb hp hc; simp only [strs, List.map_cons, List.map_nil, List.length_cons, List.length_nil])
          go_ret
          exact retb HV.out (HO.out.alloc _)
    · have HV := hide (show signT t key u = false by unfold signT; rw [hp]; simp [hk])
      have hkb : (k == 9) = false := by rw [beq_eq_false_iff_ne]; exact hk
      clear hp hk hm
      go_enter Tryd.func24, Tryd.ntmps24
      go_wp2_with (go_at_call 61; refine HP.out.mono ?_; rintro e w1 ⟨bv, pv, rfl, ho, hb, hp⟩; obtain ⟨A, cap, rfl, _, _⟩ := (hb [] (by simp)).formb; obtain ⟨A2, cap2, rfl, _, _⟩ := (hp [] (by simp)).form; have HO := hide ho; clear ho hb hp)
      go_ret
      exact retb HV.out (HO.out.alloc _)
end
section
open Go.RowKit Go.Deep

theorem get_txt {l : List ByteArray} {i : Nat} (hi : i < l.length) : (strs l)[i]? = some (.string (l.getD i ByteArray.empty)) := by simp [strs, List.getElem?_eq_getElem hi]
end
section
open Go.RowKit Go.Deep

theorem bd_size : ∃ j, Tryd.prog.info? 124 = some j ∧ j.size = 2 := Option.map_eq_some_iff.1 (show (Tryd.prog.info? 124).map (·.size) = some 2 by kernel_rfl)

set_option maxRecDepth 100000 in
set_option maxHeartbeats 1000000 in
theorem bd_check_used (b : Nat) (w : World) (h0 : w.cell? ⟨b, 0, none⟩ = some (.pointer (some ⟨b, 0, none⟩))) :
    Calls Tryd.prog 122 #[.pointer (some ⟨b, 0, none⟩)] w fun e w' => e = .returned (.tuple #[]) ∧ w' = w := by
  obtain ⟨j, hj, _⟩ := bd_size
  go_enter Tryd.func122, Tryd.ntmps122
  go_wp2
  rw [Lib.run_neq_ptr_same w _ Tryd.underlying122 hj]
  go_wp2
  go_end0
  exact ⟨rfl, rfl⟩

set_option maxRecDepth 100000 in
set_option maxHeartbeats 1000000 in
theorem bd_check_fresh (b : Nat) (w : World) (h0 : w.cell? ⟨b, 0, none⟩ = some (.pointer none)) (hsh : w.shape? b = some (124, 2)) (hfz : w.frozen? ⟨b, 0, none⟩ = false) :
    Calls Tryd.prog 122 #[.pointer (some ⟨b, 0, none⟩)] w fun e w' => e = .returned (.tuple #[]) ∧ w' = w.setCell ⟨b, 0, none⟩ (.pointer (some ⟨b, 0, none⟩)) := by
  obtain ⟨j, hj, hjs⟩ := bd_size
  go_enter Tryd.func122, Tryd.ntmps122
  go_wp2
  rw [Lib.run_to_unsafe w ⟨b, 0, none⟩ Tryd.underlying122 Tryd.underlying164 hj (by rw [hjs]; decide) hsh (Nat.zero_lt_succ 1)]
  simp only [Result.andThen]
  rw [Oper.upon_value]
  go_wp2
  rw [run_callFunc_extern Tryd.func134 (by kernel_rfl) (by kernel_rfl) (by kernel_rfl) (e := Extern.AbiNoEscape.same) (by kernel_rfl)]
  rw [Lib.run_noEscape]
  simp only [Result.andThen]
  rw [Oper.upon_value]
  go_wp2
  rw [Lib.run_from_unsafe w ⟨b, 0, none⟩ Tryd.underlying164 Tryd.underlying122 hj hsh (by kernel_rfl)]
  simp only [Result.andThen]
  rw [Oper.upon_value]
  go_wp2
  go_end0
  exact ⟨rfl, rfl⟩

theorem bd_check (B b : Nat) (bs : List Value) (w : World) (h : Lib.IsBuilder 124 5 B b bs w) :
    Calls Tryd.prog 122 #[.pointer (some ⟨b, 0, none⟩)] w fun e w' => e = .returned (.tuple #[]) ∧ (Lib.BuilderAt 124 5 B b (.pointer (some ⟨b, 0, none⟩)) bs w' ∧ Below B w w') := by
  rcases h with h | h
  · refine (bd_check_fresh b w h.cell0 h.shape h.frozen0).mono ?_
    rintro e w' ⟨rfl, rfl⟩
    exact ⟨rfl, h.used _, (Below.refl B w).setCell (p := ⟨b, 0, none⟩) h.1 _⟩
  · refine (bd_check_used b w h.cell0).mono ?_
    rintro e w' ⟨rfl, rfl⟩
    exact ⟨rfl, h, Below.refl B _⟩

theorem bd_lt {b : Nat} {w : World} {o : Obj} (h : w.heap[b]? = some o) : b < w.heap.size := by
  rcases Nat.lt_or_ge b w.heap.size with h' | h'
  · exact h'
  · simp [Array.getElem?_eq_none h'] at h

set_option maxRecDepth 100000 in
set_option maxHeartbeats 2000000 in
theorem write_byte (B b : Nat) (bs : List Value) (c : Int) (w : World) (h : Lib.IsBuilder 124 5 B b bs w) (hlen : bs.length + 1 ≤ 140737488355328) (hBw : B ≤ w.heap.size) :
    Calls Tryd.prog 85 #[.pointer (some ⟨b, 0, none⟩), .int .u8 c] w fun e w' => e = .returned .nilIface ∧ (Lib.IsBuilder 124 5 B b (bs ++ [.int .u8 c]) w' ∧ Below B w w') := by
  obtain ⟨i0, hi, hz0, hz1, hz2⟩ := info_parts (show (Tryd.prog.info? 5).map (fun i => (i.zero, i.size, i.bytes)) = some (some (.int .u8 0), 1, 1) by kernel_rfl)
  go_enter Tryd.func85, Tryd.ntmps85
  go_wp2_with (go_at_call 122; refine (bd_check B b bs _ h).mono ?_)
  rintro e w1 ⟨rfl, h1, hb1⟩
  obtain ⟨hB, v, hbk, hown, hne⟩ := h1
  have c0 : w1.cell? ⟨b, 0, none⟩ = some (.pointer (some ⟨b, 0, none⟩)) := by rw [Lib.cell_of_heap hbk]; rfl
  have c1 : w1.cell? ⟨b, 1, none⟩ = some v := by rw [Lib.cell_of_heap hbk]; rfl
  go_wp2_with (at_builtin; refine wpList_append_own _ rfl _ _ 30 rfl B 5 i0 (.int .u8 0) 1 1 Tryd.underlying30 hi hz0 hz1 hz2 rfl (by decide) _ _ _ rfl (hown.alloc _) ⟨w1.heap.size, 0, none⟩ 1 1 [.int .u8 c] rfl rfl ?c1 ?c2 ?c3 ?c4 ?c5 ?_)
  case c1 =>
    intro j u hj
    match j, hj with
    | 0, hj => simp at hj; subst hj; simp [Addr.add]
  case c2 => intro u hu; simp at hu; subst hu; rfl
  case c3 => unfold maxLen; omega
  case c4 => omega
  case c5 => have := hb1.size; simp; omega
  intro v' w2 hown' hgrow _
  have hlt : b < w1.heap.size := bd_lt hbk
  have hb2 : w2.heap[b]? = some (.cells #[.pointer (some ⟨b, 0, none⟩), v] 124 (0, 0)) := by
    rw [hgrow.block b (by simp; omega) (fun e => hne e.symm), Lib.alloc_old w1 _ b hlt]
    exact hbk
  have d0 : w2.cell? ⟨b, 0, none⟩ = some (.pointer (some ⟨b, 0, none⟩)) := by rw [Lib.cell_of_heap hb2]; rfl
  have d1 : w2.cell? ⟨b, 1, none⟩ = some v := by rw [Lib.cell_of_heap hb2]; rfl
  have f1 : w2.frozen? ⟨b, 1, none⟩ = false := Lib.frozen_of_heap hb2 1
  obtain ⟨g, cap, rfl⟩ : ∃ g cap, v' = .slice (some ⟨g, 0, none⟩) (bs.length + 1) cap := by
    rcases hown'.2 with ⟨_, h0⟩ | ⟨g, cap, cur, hv, _⟩
    · omega
    · exact ⟨g, cap, hv⟩
  go_wp2
  go_ret
  refine ⟨rfl, ?_, ?_⟩
  · exact .inr (Lib.BuilderAt.put (T := 124) (e := 5) hB hb2 (bs' := bs ++ [.int .u8 c]) (by simpa using hown') (by decide))
  · exact ((hb1.alloc (by have := hb1.size; omega) _).grown hgrow (by have := hb1.size; simp; omega) (fun k hk => (hown.lt k hk).1)).setCell (p := ⟨b, 1, none⟩) hB _

set_option maxRecDepth 100000 in
set_option maxHeartbeats 2000000 in
theorem write_string (B b : Nat) (bs : List Value) (s : ByteArray) (w : World) (h : Lib.IsBuilder 124 5 B b bs w) (hlen : bs.length + s.size ≤ 140737488355328) (hBw : B ≤ w.heap.size) :
    Calls Tryd.prog 87 #[.pointer (some ⟨b, 0, none⟩), .string s] w fun e w' => e = .returned (.tuple #[.int .i64 s.size, .nilIface]) ∧ (Lib.IsBuilder 124 5 B b (bs ++ Lib.strCells s) w' ∧ Below B w w') := by
  obtain ⟨i0, hi, hz0, hz1, hz2⟩ := info_parts (show (Tryd.prog.info? 5).map (fun i => (i.zero, i.size, i.bytes)) = some (some (.int .u8 0), 1, 1) by kernel_rfl)
  go_enter Tryd.func87, Tryd.ntmps87
  go_wp2_with (go_at_call 122; refine (bd_check B b bs _ h).mono ?_)
  rintro e w1 ⟨rfl, h1, hb1⟩
  obtain ⟨hB, v, hbk, hown, hne⟩ := h1
  have c0 : w1.cell? ⟨b, 0, none⟩ = some (.pointer (some ⟨b, 0, none⟩)) := by rw [Lib.cell_of_heap hbk]; rfl
  have c1 : w1.cell? ⟨b, 1, none⟩ = some v := by rw [Lib.cell_of_heap hbk]; rfl
  go_wp2_with (at_builtin; refine Lib.wpList_append_own_string _ rfl _ _ 30 9 rfl B 5 i0 Tryd.underlying30 Tryd.underlying9 hi hz0 hz1 hz2 _ _ _ rfl hown s rfl ?c3 ?c4 ?c5 ?_)
  case c3 => unfold maxLen; omega
  case c4 => omega
  case c5 => have := hb1.size; omega
  intro v' w2 hown' hgrow _
  have hlt : b < w1.heap.size := bd_lt hbk
  have hb2 : w2.heap[b]? = some (.cells #[.pointer (some ⟨b, 0, none⟩), v] 124 (0, 0)) := by
    rw [hgrow.block b hlt (fun e => hne e.symm)]
    exact hbk
  have d0 : w2.cell? ⟨b, 0, none⟩ = some (.pointer (some ⟨b, 0, none⟩)) := by rw [Lib.cell_of_heap hb2]; rfl
  have d1 : w2.cell? ⟨b, 1, none⟩ = some v := by rw [Lib.cell_of_heap hb2]; rfl
  have f1 : w2.frozen? ⟨b, 1, none⟩ = false := Lib.frozen_of_heap hb2 1
  obtain ⟨ao, n', cap, rfl⟩ : ∃ ao n' cap, v' = .slice ao n' cap := by
    rcases hown'.2 with ⟨hv, _⟩ | ⟨g, cap, cur, hv, _⟩
    · exact ⟨_, _, _, hv⟩
    · exact ⟨_, _, _, hv⟩
  go_wp2
  go_ret2
  refine ⟨rfl, ?_, ?_⟩
  · exact .inr (Lib.BuilderAt.put (T := 124) (e := 5) hB hb2 (bs' := bs ++ Lib.strCells s) (by simpa [Lib.strCells_length] using hown') (by decide))
  · exact (hb1.grown hgrow (by have := hb1.size; omega) (fun k hk => (hown.lt k hk).1)).setCell (p := ⟨b, 1, none⟩) hB _
end
section
open Go.RowKit Go.Deep Go.Maps Go.WideMaps

def letL : List (Int × Int) := [(1, 48), (2, 97), (3, 110), (4, 120), (5, 112), (6, 100), (7, 104), (8, 107), (9, 109), (10, 115), (11, 108)]
def letD : DataW Unit := letL.foldl (fun D p => D.put (.int .i64 p.1) (.lit (.int .u8 p.2))) (.map [])

/-- A literal's entry at the operation (the kit's law wpList_mapUpdate_own serves a statement's store). -/
theorem wpList_insert_own {H : Type} {P : Program} (w : World) {ops : Array Oper} {rest : List Oper} {o : Oper} {a : Act} {Q : Exit → Act → World → Prop}
    (hg : o.guard = none) (m x v : Operand) (t : TypeId) (hop : o.op = Op.insert t m x v)
    (k e : TypeId) (K : Keyed P k) (ht : P.underlying t = some (.map k e)) (R : Value → Option (DataW H × List MemPlace)) (b n : Nat) (D : DataW H)
    (hm : a.eval m = .map (some b)) (hown : w.ownsMap P k R b n D) (hn : n < maxLen) (key val : Value) (kl : Lit) (hx : a.eval x = key) (hv : a.eval v = val) (hkey : keyOf P k key = some kl)
    (d : DataW H) (ps : List MemPlace) (hval : R val = some (d, ps))
    (hK : ∀ w', w'.ownsMap P k R b (n + 1) (D.put kl d) → w.grownBy w' (some b) → wpList P ops Q rest (a.put o.dst undef) w') :
    wpList P ops Q (o :: rest) a w := by
  refine wpList_plain hg fun K' hK' => ?_
  obtain ⟨w', hrun, r1, r2⟩ := hown.update K ht hn hkey hval
  unfold Oper.wp
  simp [execOp, hop, hm, hx, hv, hrun, Result.andThen]
  exact hK' _ _ (hK w' r1 r2)

set_option maxRecDepth 100000 in
set_option maxHeartbeats 3200000 in
theorem letter_any (k : Int) (hk : (Lit.int .i64 k).wf = true) (w : World) : Calls Tryd.prog 56 #[.int .i64 k] w fun e w' => ∃ c, e = .returned (.int .u8 c) ∧ letD.atKey (.int .i64 k) (.lit (.int .u8 0)) = .lit (.int .u8 c) ∧ Only [] w w' := by
  have hmm := @run_makeMap Tryd.prog
  have hown : (w.alloc (.map #[] 0)).ownsMap Tryd.prog 3 (plainElem (H := Unit) Tryd.prog 5) w.heap.size 0 (.map []) := World.ownsMap_made _ _ _ _
  have HO := hide ((Only.refl [] w).alloc (.map #[] 0))
  go_enter Tryd.func56, Tryd.ntmps56
  go_wp2_with (first
    | (refine wpList_insert_own _ rfl _ _ _ 119 rfl 3 5 (int_keyed Tryd.underlying3) Tryd.underlying119 _ w.heap.size _ _ rfl hown (by unfold maxLen; omega) _ _ _ rfl rfl (keyOf_int_mk Tryd.underlying3 (by decide)) _ [] (plainElem_int Tryd.underlying5 (by decide)) ?_; intro w1 hown1 hgrow1; have HO := hide (HO.out.grown hgrow1 (fun j hj => .inr (by cases hj; exact Nat.le_refl _))); have hown := hown1; clear hown1 hgrow1)
    | (at_lookup; refine wpList_lookup_own_int _ rfl _ _ 119 rfl 3 5 .u8 (int_keyed Tryd.underlying3) Tryd.underlying119 Tryd.underlying5 (by kernel_rfl) w.heap.size _ _ rfl hown _ _ rfl (keyOf_int_mk Tryd.underlying3 hk) ?_; intro c hat _))
  go_ret
  exact ⟨c, rfl, hat, HO.out⟩
end
section
open Go.RowKit Go.Deep

abbrev IsB (B b : Nat) (bs : List Value) (w : World) : Prop := Lib.IsBuilder 124 5 B b bs w
theorem bd_only {B b : Nat} {bs : List Value} {w w' : World} (h : IsB B b bs w) (ho : Only [] w w') : IsB B b bs w' := by
  rcases h with h | h
  · obtain ⟨hB, v, hb, hown, hne⟩ := h
    exact .inl ⟨hB, v, (ho.block b (bd_lt hb) (by simp)).trans hb, own_only hown ho (by simp), hne⟩
  · obtain ⟨hB, v, hb, hown, hne⟩ := h
    exact .inr ⟨hB, v, (ho.block b (bd_lt hb) (by simp)).trans hb, own_only hown ho (by simp), hne⟩
theorem only_of_below {w w' : World} (h : Below w.heap.size w w') : Only [] w w' := ⟨h.os, h.tape, h.output, h.size, fun k hk _ => h.block k hk⟩
theorem below_of_only {B : Nat} {w w' : World} (h : Only [] w w') (hB : B ≤ w.heap.size) : Below B w w' := h.below (fun x hx => by cases hx) hB
end
section
open Go.RowKit Go.Deep

theorem bc_push (bs : List UInt8) (c : UInt8) : Lib.byteCells bs ++ [Value.int .u8 (c.toNat : Int)] = Lib.byteCells (bs ++ [c]) := by simp [Lib.byteCells]
theorem bc_string (bs l : List UInt8) : Lib.byteCells bs ++ Lib.strCells ⟨l.toArray⟩ = Lib.byteCells (bs ++ l) := by simp [Lib.byteCells, Lib.strCells]
theorem bc_len (bs : List UInt8) : (Lib.byteCells bs).length = bs.length := by simp [Lib.byteCells]
theorem isb_eq {B b : Nat} {bs cs : List Value} {w : World} (h : IsB B b bs w) (e : bs = cs) : IsB B b cs w := e ▸ h
end
end Go.Proofs.YtfmfnfmhknlpbaaDoor

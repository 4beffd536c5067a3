/-
  Walks and plain words (texts Gn). No condition beyond those that each theorem states.
-/
import Derived.Test.YtcokjoidpnfjhaaGreatDoorA14
namespace Go.Proofs.YtcokjoidpnfjhaaGreatDoor
section
open Go.RowKit Go.Deep

/-- The letter of a kind. -/
def letU (k : Int) : UInt8 := if k = 1 then 48 else if k = 2 then 97 else if k = 3 then 110 else if k = 4 then 120 else if k = 5 then 112 else if k = 6 then 100 else if k = 7 then 104 else if k = 8 then 107 else if k = 9 then 109 else if k = 10 then 115 else if k = 11 then 108 else 0
theorem kind_let (k : Int) (h : 1 ≤ k) (h2 : k ≤ 11) : kindV (letU k).toNat = k := by
  rcases (show k = 1 ∨ k = 2 ∨ k = 3 ∨ k = 4 ∨ k = 5 ∨ k = 6 ∨ k = 7 ∨ k = 8 ∨ k = 9 ∨ k = 10 ∨ k = 11 by omega) with rfl | rfl | rfl | rfl | rfl | rfl | rfl | rfl | rfl | rfl | rfl
  all_goals rfl
theorem let_kind (c : UInt8) (h : kindV c.toNat ≠ 0) : letU (kindV c.toNat) = c := by
  have key : ∀ n : Nat, ((c.toNat : Int) = n) → n < 256 → c = UInt8.ofNat n := by
    intro n e hn
    apply UInt8.toNat_inj.1
    rw [UInt8.toNat_ofNat']
    omega
  unfold kindV at h ⊢
  repeat' split
  all_goals first
    | (rename_i e; rw [key _ e (by decide)]; rfl)
    | (simp_all; done)
def joinL : List ByteArray → List UInt8
  | [] => []
  | [a] => a.data.toList
  | a :: b :: r => a.data.toList ++ 44 :: joinL (b :: r)
/-- The text of a term. -/
noncomputable def txtL (k : Int) (n : Nat) (b : List UInt8) (l : List ByteArray) : List UInt8 :=
  letU k :: (if k = 2 ∨ k = 3 then Lib.decDigits n else if k = 4 then hexS b else if k ≤ 4 then [] else
    40 :: ((if numberedV k = true then Lib.decDigits n ++ (if l = [] then [] else [44]) else []) ++ (joinL l ++ [41])))
def isT (l : List UInt8) : Prop := ∃ nd, rdL (2 * l.length) none l = some (nd, [])
theorem isT_ne {l : List UInt8} (h : isT l) : l ≠ [] ∧ l.head? ≠ some 41 := by
  obtain ⟨nd, h⟩ := h
  obtain ⟨x, e, e2, e3, _⟩ := rdL_local _ _ _ _ _ h
  rw [List.append_nil] at e
  subst e
  exact ⟨e2, e3⟩
theorem isT_on {l : List UInt8} (h : isT l) : ∃ nd, ∀ y g, dl y → 2 * l.length ≤ g → rdL g none (l ++ y) = some (nd, y) := by
  obtain ⟨nd, h⟩ := h
  obtain ⟨x, e, e2, e3, e4⟩ := rdL_local _ _ _ _ _ h
  rw [List.append_nil] at e
  subst e
  exact ⟨nd, e4⟩
theorem isT_of {f : Nat} {z y : List UInt8} {nd : Nd} (h : rdL f none z = some (nd, y)) : ∃ x, z = x ++ y ∧ isT x ∧ x ≠ [] := by
  obtain ⟨x, e, e2, e3, e4⟩ := rdL_local _ _ _ _ _ h
  refine ⟨x, e, ⟨nd, ?_⟩, e2⟩
  have := e4 [] (2 * x.length) (.inl rfl) (Nat.le_refl _)
  rwa [List.append_nil] at this
theorem take_front (x y : List UInt8) : (x ++ y).take ((x ++ y).length - y.length) = x := by
  rw [List.length_append, Nat.add_sub_cancel, List.take_left']
  rfl
theorem bytesOf_data (a : ByteArray) : bytesOf a.data.toList = a := ByteArray.ext (Array.toArray_toList)
/-- Two parts of a Dh that stand in the wrong order. -/
def wrong (k : Int) (l : List ByteArray) : Prop := k = 6 ∧ l.length = 2 ∧ gtB (l.getD 0 ByteArray.empty) (l.getD 1 ByteArray.empty) = true
instance (k : Int) (l : List ByteArray) : Decidable (wrong k l) := by unfold wrong; exact inferInstance
theorem parts_on (k : Int) (n : Nat) : ∀ (l : List ByteArray) (acc : List ByteArray) (y : List UInt8) (g : Nat), l ≠ [] → (∀ p ∈ l, isT p.data.toList) → (k ≠ 6 ∨ 2 ≤ acc.length) → 2 * (joinL l).length + 2 ≤ g →
    rdL g (some (k, n, acc)) (joinL l ++ 41 :: y) = endL k n (acc ++ l) (41 :: y) := by
  intro l
  induction l with
  | nil => intro _ _ _ h; exact absurd rfl h
  | cons a r ih =>
    intro acc y g _ hT hk hg
    obtain ⟨nd, hon⟩ := isT_on (hT a List.mem_cons_self)
    have hne : (isT_ne (hT a List.mem_cons_self)).1 = (isT_ne (hT a List.mem_cons_self)).1 := rfl
    obtain ⟨g, rfl⟩ : ∃ g', g = g' + 1 := ⟨g - 1, by omega⟩
    have hk1 : ∀ part, ¬ (k = 6 ∧ acc.length = 1 ∧ gtB (acc.getLastD ByteArray.empty) part = true) := by
      rintro part ⟨h1, h2, _⟩
      rcases hk with h | h
      · exact h h1
      · omega
    cases r with
    | nil =>
      rw [joinL] at hg ⊢
      rw [rdL_some]
      unfold ptL
      rw [hon (41 :: y) g (dl_cons (by decide)) (by omega)]
      simp only
      rw [take_front, if_neg (hk1 _), if_neg (by simp), bytesOf_data]
    | cons b r =>
      rw [joinL] at hg ⊢
      rw [rdL_some]
      unfold ptL
      rw [List.append_assoc, List.cons_append, hon (44 :: (joinL (b :: r) ++ 41 :: y)) g (dl_cons (by decide)) (by rw [List.length_append] at hg; omega)]
      simp only
      rw [take_front, if_neg (hk1 _), if_pos (by rfl), bytesOf_data, List.tail_cons]
      have hpos : 1 ≤ a.data.toList.length := by
        have := (isT_ne (hT a List.mem_cons_self)).1
        cases h : a.data.toList with
        | nil => exact absurd h this
        | cons c t => simp
      rw [ih (acc ++ [a]) y g (by simp) (fun p hp => hT p (List.mem_cons_of_mem _ hp)) (by rcases hk with h | h; exact .inl h; right; rw [List.length_append]; omega) (by rw [List.length_append] at hg; simp at hg; omega)]
      rw [List.append_assoc]
      rfl
theorem fits6 (m : Nat) (h : m ≠ 2) : fitsV 6 (m : Int) = false := by
  simp only [fitsV, leastV, mostV]
  rw [Bool.eq_false_iff]
  simp
  omega
theorem parts_all (k : Int) (n : Nat) (l : List ByteArray) (y : List UInt8) (g : Nat) (hl : l ≠ []) (hT : ∀ p ∈ l, isT p.data.toList) (hg : 2 * (joinL l).length + 2 ≤ g) :
    rdL g (some (k, n, [])) (joinL l ++ 41 :: y) = if wrong k l then none else endL k n l (41 :: y) := by
  by_cases hk : k = 6
  · subst hk
    cases l with
    | nil => exact absurd rfl hl
    | cons a r =>
      obtain ⟨nd, hon⟩ := isT_on (hT a List.mem_cons_self)
      obtain ⟨g, rfl⟩ : ∃ g', g = g' + 1 := ⟨g - 1, by omega⟩
      cases r with
      | nil =>
        rw [joinL] at hg ⊢
        rw [rdL_some]
        unfold ptL
        rw [hon (41 :: y) g (dl_cons (by decide)) (by omega)]
        simp only
        rw [take_front, if_neg (by simp), if_neg (by simp), bytesOf_data, if_neg (by rintro ⟨_, h, _⟩; simp at h)]
        rfl
      | cons b r =>
        have hposa : 1 ≤ a.data.toList.length := by
          have := (isT_ne (hT a List.mem_cons_self)).1
          cases h : a.data.toList with
          | nil => exact absurd h this
          | cons c t => simp
        rw [joinL] at hg ⊢
        rw [rdL_some]
        unfold ptL
        rw [List.append_assoc, List.cons_append, hon (44 :: (joinL (b :: r) ++ 41 :: y)) g (dl_cons (by decide)) (by rw [List.length_append] at hg; omega)]
        simp only
        rw [take_front, if_neg (by simp), if_pos (by rfl), bytesOf_data, List.tail_cons, List.nil_append]
        obtain ⟨nd2, hon2⟩ := isT_on (hT b (List.mem_cons_of_mem _ List.mem_cons_self))
        rw [List.length_append] at hg
        simp only [List.length_cons] at hg
        obtain ⟨g, rfl⟩ : ∃ g', g = g' + 1 := ⟨g - 1, by omega⟩
        cases r with
        | nil =>
          rw [joinL] at hg ⊢
          rw [rdL_some]
          unfold ptL
          rw [hon2 (41 :: y) g (dl_cons (by decide)) (by omega)]
          simp only
          rw [take_front, bytesOf_data]
          by_cases hgt : gtB a b = true
          · rw [if_pos (show True ∧ [a].length = 1 ∧ gtB ([a].getLastD ByteArray.empty) b = true from ⟨trivial, rfl, hgt⟩), if_pos (show wrong 6 [a, b] from ⟨rfl, rfl, hgt⟩)]
          · rw [if_neg (show ¬ (True ∧ [a].length = 1 ∧ gtB ([a].getLastD ByteArray.empty) b = true) by rintro ⟨_, _, h⟩; exact hgt h), if_neg (show ¬ wrong 6 [a, b] by rintro ⟨_, _, h⟩; exact hgt h), if_neg (by simp)]
            rfl
        | cons c r =>
          have hposb : 1 ≤ b.data.toList.length := by
            have := (isT_ne (hT b (List.mem_cons_of_mem _ List.mem_cons_self))).1
            cases h : b.data.toList with
            | nil => exact absurd h this
            | cons c t => simp
          have hend : endL 6 n (a :: b :: c :: r) (41 :: y) = none := by
            unfold endL
            simp only
            rw [if_neg]
            rw [fits6 _ (by simp)]
            decide
          rw [if_neg (show ¬ wrong 6 (a :: b :: c :: r) by rintro ⟨_, h, _⟩; simp at h), hend]
          rw [joinL] at hg ⊢
          rw [rdL_some]
          unfold ptL
          rw [List.append_assoc, List.cons_append, hon2 (44 :: (joinL (c :: r) ++ 41 :: y)) g (dl_cons (by decide)) (by rw [List.length_append] at hg; omega)]
          simp only
          split
          · rfl
          · rw [take_front, if_pos (by rfl), bytesOf_data, List.tail_cons]
            rw [parts_on 6 n (c :: r) _ y g (by simp) (fun p hp => hT p (List.mem_cons_of_mem _ (List.mem_cons_of_mem _ hp))) (.inr (by simp)) (by rw [List.length_append] at hg; simp at hg; omega)]
            exact hend
  · rw [parts_on k n l [] y g hl hT (.inl hk) hg, if_neg (by rintro ⟨h, _⟩; exact hk h)]
    rfl
theorem dig_nd (l : List UInt8) (h : l.all digB = true) : l.all nd_ = true := by
  rw [List.all_eq_true] at h ⊢
  intro c hc
  have h2 := h c hc
  unfold digB at h2
  simp only [Bool.and_eq_true, decide_eq_true_eq] at h2
  unfold nd_ del
  rw [Bool.not_eq_true', Bool.or_eq_false_iff, Bool.or_eq_false_iff, beq_eq_false_iff_ne, beq_eq_false_iff_ne, beq_eq_false_iff_ne]
  refine ⟨⟨?_, ?_⟩, ?_⟩
  all_goals
    intro e
    rw [e] at h2
    revert h2
    decide
theorem hex_nd (l : List UInt8) (h : l.all hexB = true) : l.all nd_ = true := by
  rw [List.all_eq_true] at h ⊢
  intro c hc
  have h2 := h c hc
  unfold nd_ del
  rw [Bool.not_eq_true', Bool.or_eq_false_iff, Bool.or_eq_false_iff, beq_eq_false_iff_ne, beq_eq_false_iff_ne, beq_eq_false_iff_ne]
  refine ⟨⟨?_, ?_⟩, ?_⟩
  all_goals
    intro e
    rw [e] at h2
    revert h2
    decide
theorem numK_dec (k : Int) (n : Nat) (h : n < 18446744073709551616) : numK k (Lib.decDigits n) = if allowedV k n = true then some n else none := by
  unfold numK
  rw [numR_dec n h]
  by_cases ha : allowedV k n = true
  · rw [if_pos ⟨rfl, ha⟩, if_pos ha]
  · rw [if_neg (by rintro ⟨_, h⟩; exact ha h), if_neg ha]
theorem openL_at (F : List UInt8 → Option (Nd × List UInt8)) (k : Int) (n : Nat) (z : List UInt8) (h : z.head? ≠ some 41) : openL F k n z = F z := by
  unfold openL; rw [if_neg h]
theorem joinL_head (l : List ByteArray) (hl : l ≠ []) (hT : ∀ p ∈ l, isT p.data.toList) (y : List UInt8) : (joinL l ++ y).head? ≠ some 41 ∧ joinL l ≠ [] := by
  cases l with
  | nil => exact absurd rfl hl
  | cons a r =>
    obtain ⟨h1, h2⟩ := isT_ne (hT a List.mem_cons_self)
    cases r with
    | nil => rw [joinL, head_app h1]; exact ⟨h2, h1⟩
    | cons b r =>
      rw [joinL, List.append_assoc, head_app h1]
      exact ⟨h2, by simp⟩
/-- May a term be of this kind and number, and have these parts? -/
def okV (k : Int) (n : Nat) (l : List ByteArray) : Prop := (numberedV k = true → allowedV k n = true) ∧ fitsV k l.length = true ∧ ¬ wrong k l
instance (k : Int) (n : Nat) (l : List ByteArray) : Decidable (okV k n l) := by unfold okV; exact inferInstance
theorem rd_txt5 (k : Int) (n : Nat) (b : List UInt8) (l : List ByteArray) (g : Nat) (h5 : 5 ≤ k) (h11 : k ≤ 11) (hn : n < 18446744073709551616) (hT : ∀ p ∈ l, isT p.data.toList) (hg : 2 * (txtL k n b l).length + 2 ≤ g) :
    rdL g none (txtL k n b l) = if okV k n l then some ((k, (if numberedV k = true then n else 0), [], l), []) else none := by
  obtain ⟨g, rfl⟩ : ∃ g', g = g' + 1 := ⟨g - 1, by omega⟩
  have hk := kind_let k (by omega) h11
  have hz : fitsV k (([] : List ByteArray).length : Nat) = decide (k = 11) := fits_zero h5 h11
  unfold txtL at hg ⊢
  rw [if_neg (by omega), if_neg (by omega), if_neg (by omega)] at hg ⊢
  rw [rdL_none]
  simp only [List.length_cons, List.length_append] at hg
  have hmain : ∀ (m : Nat) (l' : List UInt8), l' = joinL l ++ [41] → (numberedV k = true → m = n ∧ l ≠ []) → (numberedV k = false → m = 0) → (numberedV k = true → allowedV k n = true) →
      openL (rdL g (some (k, m, []))) k m l' = if okV k n l then some ((k, (if numberedV k = true then n else 0), [], l), []) else none := by
    rintro m l' rfl hm1 hm2 ha
    have hm : m = if numberedV k = true then n else 0 := by
      cases h : numberedV k with
      | true => rw [if_pos rfl]; exact (hm1 h).1
      | false => rw [if_neg (by decide)]; exact hm2 h
    rw [← hm]
    by_cases hl : l = []
    · subst hl
      unfold openL
      rw [if_pos (by rfl)]
      show endL k m [] [41] = _
      unfold endL
      simp only
      by_cases hf : fitsV k (([] : List ByteArray).length : Nat) = true
      · rw [if_pos hf, if_pos ⟨ha, hf, by rintro ⟨_, h, _⟩; simp at h⟩]
      · rw [if_neg hf, if_neg (by rintro ⟨_, h, _⟩; exact hf h)]
    · obtain ⟨h1, h2⟩ := joinL_head l hl hT [41]
      rw [openL_at _ _ _ _ h1, parts_all k m l [] g hl hT (by omega)]
      by_cases hw : wrong k l
      · rw [if_pos hw, if_neg (by rintro ⟨_, _, h⟩; exact h hw)]
      · rw [if_neg hw]
        unfold endL
        simp only
        by_cases hf : fitsV k l.length = true
        · rw [if_pos hf, if_pos ⟨ha, hf, hw⟩]
        · rw [if_neg hf, if_neg (by rintro ⟨_, h, _⟩; exact hf h)]
  cases hnb : numberedV k with
  | true =>
    rw [hnb] at hmain hg
    have hw := dig_nd _ (dec_dig n)
    rw [if_pos rfl] at hg ⊢
    by_cases hl : l = []
    · subst hl
      have hk8 : k ≠ 11 := by intro e; subst e; cases hnb
      rw [if_pos rfl, List.append_nil, if_neg (show ¬ okV k n [] by rintro ⟨_, h, _⟩; rw [hz] at h; exact hk8 (of_decide_eq_true h))]
      obtain ⟨t1, t2⟩ := tw_dl (Lib.decDigits n) [41] hw (dl_cons (by decide))
      rw [tmL, hk, if_neg (by omega), if_neg (by omega), if_neg (by omega), if_neg (by omega), if_neg (show ¬ ((40 :: (Lib.decDigits n ++ (joinL [] ++ [41]))).head? ≠ some 40) from fun h => h rfl), if_pos hnb, List.tail_cons]
      rw [show joinL [] ++ [41] = [41] from rfl, t1, t2]
      cases numK k (Lib.decDigits n) with
      | none => rfl
      | some m => simp
    · rw [if_neg hl, List.append_assoc, List.singleton_append]
      by_cases ha : allowedV k n = true
      · have hK := numK_dec k n hn
        rw [if_pos ha] at hK
        rw [tmL_num _ _ _ _ n (by rw [hk]; exact h5) (by rw [hk]; exact hnb) hw (by rw [hk]; exact hK), hk]
        have h := hmain n _ rfl (fun _ => ⟨rfl, hl⟩) (fun h => by cases h) (fun _ => ha)
        exact h
      · have hK := numK_dec k n hn
        rw [if_neg ha] at hK
        rw [if_neg (show ¬ okV k n l by rintro ⟨h, _⟩; exact ha (h hnb))]
        obtain ⟨t1, t2⟩ := tw_dl (Lib.decDigits n) (44 :: (joinL l ++ [41])) hw (dl_cons (by decide))
        rw [tmL, hk, if_neg (by omega), if_neg (by omega), if_neg (by omega), if_neg (by omega), if_neg (show ¬ ((40 :: (Lib.decDigits n ++ 44 :: (joinL l ++ [41]))).head? ≠ some 40) from fun h => h rfl), if_pos hnb, List.tail_cons, t1, hK]
  | false =>
    rw [hnb] at hmain
    rw [if_neg (by decide), List.nil_append, tmL_bare _ _ _ (by rw [hk]; exact h5) (by rw [hk]; exact hnb), hk]
    exact hmain 0 _ rfl (fun h => by cases h) (fun _ => rfl) (fun h => by cases h)
theorem rd_txt4 (k : Int) (n : Nat) (b : List UInt8) (l : List ByteArray) (g : Nat) (h1 : 1 ≤ k) (h4 : k ≤ 4) (hn : n < 18446744073709551616) (hg : 1 ≤ g) :
    rdL g none (txtL k n b l) = if (numberedV k = true → allowedV k n = true) then some ((k, (if numberedV k = true then n else 0), (if k = 4 then b else []), []), []) else none := by
  obtain ⟨g, rfl⟩ : ∃ g', g = g' + 1 := ⟨g - 1, by omega⟩
  have hk := kind_let k h1 (by omega)
  rw [rdL_none]
  unfold txtL
  rw [tmL, hk]
  rcases (show k = 1 ∨ k = 2 ∨ k = 3 ∨ k = 4 by omega) with rfl | rfl | rfl | rfl
  · rfl
  · have hw := dig_nd _ (dec_dig n)
    obtain ⟨t1, t2⟩ := tw_dl (Lib.decDigits n) [] hw (.inl rfl)
    rw [List.append_nil] at t1 t2
    rw [if_neg (by decide), if_neg (by decide), if_pos (by decide), if_pos (by decide), t1, t2, numK_dec _ n hn]
    by_cases ha : allowedV 2 n = true
    · rw [if_pos ha, if_pos (fun _ => ha)]; rfl
    · rw [if_neg ha, if_neg (fun h => ha (h rfl))]
  · have hw := dig_nd _ (dec_dig n)
    obtain ⟨t1, t2⟩ := tw_dl (Lib.decDigits n) [] hw (.inl rfl)
    rw [List.append_nil] at t1 t2
    rw [if_neg (by decide), if_neg (by decide), if_pos (by decide), if_pos (by decide), t1, t2, numK_dec _ n hn]
    by_cases ha : allowedV 3 n = true
    · rw [if_pos ha, if_pos (fun _ => ha)]; rfl
    · rw [if_neg ha, if_neg (fun h => ha (h rfl))]
  · have hw := hex_nd _ (hexS_hex b)
    obtain ⟨t1, t2⟩ := tw_dl (hexS b) [] hw (.inl rfl)
    rw [List.append_nil] at t1 t2
    have ht : (if (4 : Int) = 2 ∨ (4 : Int) = 3 then Lib.decDigits n else if (4 : Int) = 4 then hexS b else if (4 : Int) ≤ 4 then [] else
      40 :: ((if numberedV 4 = true then Lib.decDigits n ++ (if l = [] then [] else [44]) else []) ++ (joinL l ++ [41]))) = hexS b := by
      rw [if_neg (by decide), if_pos rfl]
    rw [ht, if_neg (by decide), if_neg (by decide), if_neg (by decide), if_pos (by decide), t1, t2, hexR_hexS, if_pos rfl, if_pos (fun h => by cases h)]
    rfl
theorem numK_some {k : Int} {w : List UInt8} {n : Nat} (h : numK k w = some n) : w = Lib.decDigits n ∧ allowedV k n = true ∧ n < 18446744073709551616 := by
  unfold numK at h
  split at h
  · rename_i hc
    simp only [Option.some.injEq] at h
    subst h
    exact ⟨(numR_back w hc.1).symm, hc.2, numR_lt w⟩
  · cases h
/-- What the parts are, of which a text was read. -/
theorem parts_back : ∀ (f : Nat) (k : Int) (n : Nat) (acc : List ByteArray) (z y : List UInt8) (nd : Nd), rdL f (some (k, n, acc)) z = some (nd, y) →
    ∃ l, l ≠ [] ∧ z = joinL l ++ 41 :: y ∧ nd = (k, n, [], acc ++ l) ∧ fitsV k (acc ++ l).length = true ∧ ∀ p ∈ l, isT p.data.toList := by
  intro f
  induction f with
  | zero => intro _ _ _ _ _ _ h; cases h
  | succ f ih =>
    intro k n acc z y nd h
    rw [rdL_some] at h
    unfold ptL at h
    split at h
    · cases h
    · rename_i nd1 z1 hq
      obtain ⟨x, e, hx, hne⟩ := isT_of hq
      rw [e, take_front] at h
      have hxT : isT (bytesOf x).data.toList := by
        have : (bytesOf x).data.toList = x := rfl
        rw [this]; exact hx
      split at h
      · cases h
      · split at h
        · rename_i h44
          obtain ⟨l, hl, d1, d2, d3, d4⟩ := ih _ _ _ _ _ _ h
          refine ⟨bytesOf x :: l, by simp, ?_, ?_, ?_, ?_⟩
          · rw [e, head_tail h44, d1]
            cases l with
            | nil => exact absurd rfl hl
            | cons b r =>
              rw [joinL, List.append_assoc]
              rfl
          · rw [d2, List.append_assoc]; rfl
          · rw [List.append_assoc] at d3; exact d3
          · intro p hp
            rcases List.mem_cons.1 hp with rfl | hp
            · exact hxT
            · exact d4 p hp
        · obtain ⟨d1, d2, d3⟩ := endL_some h
          refine ⟨[bytesOf x], by simp, ?_, d3, d2, ?_⟩
          · rw [e, d1]; rfl
          · intro p hp
            rw [List.mem_singleton.1 hp]; exact hxT
/-- What was read is the text of what it was read as. -/
theorem rd_back (f : Nat) (z : List UInt8) (k : Int) (n : Nat) (b : List UInt8) (l : List ByteArray) (h : rdL f none z = some ((k, n, b, l), [])) :
    z = txtL k n b l ∧ 1 ≤ k ∧ k ≤ 11 ∧ okV k n l ∧ n < 18446744073709551616 ∧ (numberedV k = false → n = 0) ∧ (k ≠ 4 → b = []) ∧ (k ≤ 4 → l = []) ∧ (∀ p ∈ l, isT p.data.toList) := by
  have hwhole : isT z := by
    obtain ⟨x, e, hx, _⟩ := isT_of h
    rw [List.append_nil] at e
    rw [e]; exact hx
  cases f with
  | zero => cases h
  | succ f =>
    rw [rdL_none] at h
    cases z with
    | nil => cases h
    | cons c r =>
      rw [tmL] at h
      have hkr := kind_le (c.toNat : Int)
      split at h
      · cases h
      rename_i h0
      have hlet := let_kind c h0
      split at h
      · rename_i h1
        simp only [Option.some.injEq, Prod.mk.injEq] at h
        obtain ⟨⟨rfl, rfl, rfl, rfl⟩, rfl⟩ := h
        refine ⟨?_, by omega, by omega, ⟨by decide, by decide, by rintro ⟨h, _⟩; cases h⟩, by decide, fun _ => rfl, fun _ => rfl, fun _ => rfl, fun p hp => by cases hp⟩
        unfold txtL
        rw [h1] at hlet
        rw [hlet]
        rfl
      rename_i h1
      split at h
      · rename_i h23
        split at h
        · cases h
        · rename_i m hm
          simp only [Option.some.injEq, Prod.mk.injEq] at h
          obtain ⟨⟨hk, rfl, rfl, rfl⟩, hd⟩ := h
          obtain ⟨w1, w2, w3⟩ := numK_some hm
          have hs := tw_split r
          rw [hd, List.append_nil] at hs
          rw [hk] at hlet h23 w2
          have hk4 : k ≤ 4 := by omega
          refine ⟨?_, by omega, by omega, ⟨fun _ => w2, ?_, by rintro ⟨h, _⟩; omega⟩, w3, ?_, fun _ => rfl, fun _ => rfl, fun p hp => by cases hp⟩
          · unfold txtL
            rw [hlet, if_pos h23, ← w1, ← hs]
          · rcases h23 with rfl | rfl <;> decide
          · intro h; rcases h23 with rfl | rfl <;> cases h
      rename_i h23
      split at h
      · rename_i h4
        split at h
        · rename_i hx
          simp only [Option.some.injEq, Prod.mk.injEq] at h
          obtain ⟨⟨rfl, rfl, rfl, rfl⟩, hd⟩ := h
          have hs := tw_split r
          rw [hd, List.append_nil] at hs
          rw [h4] at hlet
          refine ⟨?_, by omega, by omega, ⟨by decide, by decide, by rintro ⟨h, _⟩; cases h⟩, by decide, fun _ => rfl, fun h => absurd rfl h, fun _ => rfl, fun p hp => by cases hp⟩
          unfold txtL
          rw [hlet, if_neg (by decide), if_pos rfl, hexR_back _ hx, ← hs]
        · cases h
      rename_i h4
      split at h
      · cases h
      rename_i h40
      have hr := head_tail (Decidable.byContradiction h40)
      have hopen : ∀ (m : Nat) (z1 : List UInt8), openL (rdL f (some (kindV c.toNat, m, []))) (kindV c.toNat) m z1 = some ((k, n, b, l), []) →
          z1 = joinL l ++ [41] ∧ k = kindV c.toNat ∧ n = m ∧ b = [] ∧ fitsV k l.length = true ∧ ∀ p ∈ l, isT p.data.toList := by
        intro m z1 h1
        unfold openL at h1
        split at h1
        · obtain ⟨e1, e2, e3⟩ := endL_some h1
          simp only [Prod.mk.injEq] at e3
          obtain ⟨rfl, rfl, rfl, rfl⟩ := e3
          exact ⟨e1, rfl, rfl, rfl, e2, fun p hp => by cases hp⟩
        · obtain ⟨l', hl', e1, e2, e3, e4⟩ := parts_back _ _ _ _ _ _ _ h1
          simp only [Prod.mk.injEq, List.nil_append] at e2
          obtain ⟨rfl, rfl, rfl, rfl⟩ := e2
          exact ⟨e1, rfl, rfl, rfl, e3, e4⟩
      -- the text, and from it the order of a Dh's parts
      have hfin : ∀ (hz : c :: r = txtL k n b l) (hk : k = kindV c.toNat) (hn : n < 18446744073709551616) (hT : ∀ p ∈ l, isT p.data.toList), okV k n l := by
        intro hz hk hn hT
        obtain ⟨nd, hw⟩ := isT_on hwhole
        have h1 := hw [] (2 * (c :: r).length + 2) (.inl rfl) (by omega)
        rw [List.append_nil, hz, rd_txt5 k n b l _ (by omega) (by omega) hn hT (by omega)] at h1
        split at h1
        · assumption
        · cases h1
      split at h
      · rename_i hnb
        split at h
        · cases h
        · rename_i m hm
          split at h
          · cases h
          · rename_i h44
            have h44' := head_tail (Decidable.byContradiction h44)
            obtain ⟨e1, e2, e3, e4, e5, e6⟩ := hopen _ _ h
            subst e3 e4
            obtain ⟨w1, w2, w3⟩ := numK_some hm
            rw [← e2] at hlet hnb w2 hkr h0 h1 h23 h4
            have hl : l ≠ [] := by
              rintro rfl
              rw [show (([] : List ByteArray).length : Int) = 0 from rfl, fits_zero (by omega) (by omega)] at e5
              have := of_decide_eq_true e5
              subst this
              cases hnb
            have hz : c :: r = txtL k n [] l := by
              unfold txtL
              rw [hlet, if_neg h23, if_neg h4, if_neg (by omega), if_pos hnb, if_neg hl, ← w1, List.append_assoc, List.singleton_append, ← e1, ← h44', ← tw_split, ← hr]
            exact ⟨hz, by omega, by omega, hfin hz e2 w3 e6, w3, (fun h => by rw [hnb] at h; cases h), fun _ => rfl, (fun h => by omega), e6⟩
      · rename_i hnb
        obtain ⟨e1, e2, e3, e4, e5, e6⟩ := hopen _ _ h
        subst e3 e4
        rw [← e2] at hlet hnb hkr h0 h1 h23 h4
        have hz : c :: r = txtL k 0 [] l := by
          unfold txtL
          rw [hlet, if_neg h23, if_neg h4, if_neg (by omega), if_neg hnb, List.nil_append, ← e1, ← hr]
        exact ⟨hz, by omega, by omega, hfin hz e2 (by decide) e6, by decide, fun _ => rfl, fun _ => rfl, fun h => by omega, e6⟩
end
end Go.Proofs.YtcokjoidpnfjhaaGreatDoor

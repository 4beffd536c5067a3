/-
  Walks and plain words (texts Gn, Gq, Tv, Tw, Is, Mk0, Bh, La). No condition beyond those that each theorem states.
-/
import Derived.Handy
import Derived.Maps.Own
import Derived.Maps.OwnOps
import Derived.Shelf.Strings.Builder1
import Derived.Test.YteoifokmbkpbnaaDoorChecked
import Derived.Test.YteoifokmbkpbnaaDoorQ20
namespace Go.Proofs.YteoifokmbkpbnaaDoor
section
open Go.RowKit Go.Deep

/-- The letter of a kind. -/
def letU (k : Int) : UInt8 := if k = 1 then 48 else if k = 2 then 97 else if k = 3 then 110 else if k = 4 then 120 else if k = 5 then 112 else if k = 6 then 100 else if k = 7 then 104 else if k = 8 then 107 else if k = 9 then 109 else if k = 10 then 115 else if k = 11 then 108 else 0
theorem kind_let (k : Int) (h : 1 ≤ k) (h2 : k ≤ 11) : kindV (letU k).toNat = k := by
  rcases (show k = 1 ∨ k = 2 ∨ k = 3 ∨ k = 4 ∨ k = 5 ∨ k = 6 ∨ k = 7 ∨ k = 8 ∨ k = 9 ∨ k = 10 ∨ k = 11 by omega) with rfl | rfl | rfl | rfl | rfl | rfl | rfl | rfl | rfl | rfl | rfl
  all_goals rfl
theorem let_kind (c : UInt8) (h : kindV c.toNat ≠ 0) : letU (kindV c.toNat) = c := by
  have key : ∀ n : Nat, ((c.toNat : Int) = n) → n < 256 → c = UInt8.ofNat n := by
    intro n e hn
    apply UInt8.toNat_inj.1
    rw [UInt8.toNat_ofNat']
    omega
  unfold kindV at h ⊢
  repeat' split
  all_goals first
    | (rename_i e; rw [key _ e (by decide)]; rfl)
    | (simp_all; done)
def joinL : List ByteArray → List UInt8
  | [] => []
  | [a] => a.data.toList
  | a :: b :: r => a.data.toList ++ 44 :: joinL (b :: r)
/-- The text of a term. -/
noncomputable def txtL (k : Int) (n : Nat) (b : List UInt8) (l : List ByteArray) : List UInt8 :=
  letU k :: (if k = 2 ∨ k = 3 then Lib.decDigits n else if k = 4 then hexS b else if k ≤ 4 then [] else
    40 :: ((if numberedV k = true then Lib.decDigits n ++ (if l = [] then [] else [44]) else []) ++ (joinL l ++ [41])))
def isT (l : List UInt8) : Prop := ∃ nd, rdL (2 * l.length) none l = some (nd, [])
theorem isT_ne {l : List UInt8} (h : isT l) : l ≠ [] ∧ l.head? ≠ some 41 := by
  obtain ⟨nd, h⟩ := h
  obtain ⟨x, e, e2, e3, _⟩ := rdL_local _ _ _ _ _ h
  rw [List.append_nil] at e
  subst e
  exact ⟨e2, e3⟩
theorem isT_on {l : List UInt8} (h : isT l) : ∃ nd, ∀ y g, dl y → 2 * l.length ≤ g → rdL g none (l ++ y) = some (nd, y) := by
  obtain ⟨nd, h⟩ := h
  obtain ⟨x, e, e2, e3, e4⟩ := rdL_local _ _ _ _ _ h
  rw [List.append_nil] at e
  subst e
  exact ⟨nd, e4⟩
theorem isT_of {f : Nat} {z y : List UInt8} {nd : Nd} (h : rdL f none z = some (nd, y)) : ∃ x, z = x ++ y ∧ isT x ∧ x ≠ [] := by
  obtain ⟨x, e, e2, e3, e4⟩ := rdL_local _ _ _ _ _ h
  refine ⟨x, e, ⟨nd, ?_⟩, e2⟩
  have := e4 [] (2 * x.length) (.inl rfl) (Nat.le_refl _)
  rwa [List.append_nil] at this
theorem take_front (x y : List UInt8) : (x ++ y).take ((x ++ y).length - y.length) = x := by
  rw [List.length_append, Nat.add_sub_cancel, List.take_left']
  rfl
theorem bytesOf_data (a : ByteArray) : bytesOf a.data.toList = a := ByteArray.ext (Array.toArray_toList)
/-- Two parts of a Dh that stand in the wrong order. -/
def wrong (k : Int) (l : List ByteArray) : Prop := k = 6 ∧ l.length = 2 ∧ gtB (l.getD 0 ByteArray.empty) (l.getD 1 ByteArray.empty) = true
instance (k : Int) (l : List ByteArray) : Decidable (wrong k l) := by unfold wrong; exact inferInstance
theorem parts_on (k : Int) (n : Nat) : ∀ (l : List ByteArray) (acc : List ByteArray) (y : List UInt8) (g : Nat), l ≠ [] → (∀ p ∈ l, isT p.data.toList) → (k ≠ 6 ∨ 2 ≤ acc.length) → 2 * (joinL l).length + 2 ≤ g →
    rdL g (some (k, n, acc)) (joinL l ++ 41 :: y) = endL k n (acc ++ l) (41 :: y) := by
  intro l
  induction l with
  | nil => intro _ _ _ h; exact absurd rfl h
  | cons a r ih =>
    intro acc y g _ hT hk hg
    obtain ⟨nd, hon⟩ := isT_on (hT a List.mem_cons_self)
    have hne : (isT_ne (hT a List.mem_cons_self)).1 = (isT_ne (hT a List.mem_cons_self)).1 := rfl
    obtain ⟨g, rfl⟩ : ∃ g', g = g' + 1 := ⟨g - 1, by omega⟩
    have hk1 : ∀ part, ¬ (k = 6 ∧ acc.length = 1 ∧ gtB (acc.getLastD ByteArray.empty) part = true) := by
      rintro part ⟨h1, h2, _⟩
      rcases hk with h | h
      · exact h h1
      · omega
    cases r with
    | nil =>
      rw [joinL] at hg ⊢
      rw [rdL_some]
      unfold ptL
      rw [hon (41 :: y) g (dl_cons (by decide)) (by omega)]
      simp only
      rw [take_front, if_neg (hk1 _), if_neg (by simp), bytesOf_data]
    | cons b r =>
      rw [joinL] at hg ⊢
      rw [rdL_some]
      unfold ptL
      rw [List.append_assoc, List.cons_append, hon (44 :: (joinL (b :: r) ++ 41 :: y)) g (dl_cons (by decide)) (by rw [List.length_append] at hg; omega)]
      simp only
      rw [take_front, if_neg (hk1 _), if_pos (by rfl), bytesOf_data, List.tail_cons]
      have hpos : 1 ≤ a.data.toList.length := by
        have := (isT_ne (hT a List.mem_cons_self)).1
        cases h : a.data.toList with
        | nil => exact absurd h this
        | cons c t => simp
      rw [ih (acc ++ [a]) y g (by simp) (fun p hp => hT p (List.mem_cons_of_mem _ hp)) (by rcases hk with h | h; exact .inl h; right; rw [List.length_append]; omega) (by rw [List.length_append] at hg; simp at hg; omega)]
      rw [List.append_assoc]
      rfl
theorem fits6 (m : Nat) (h : m ≠ 2) : fitsV 6 (m : Int) = false := by
  simp only [fitsV, leastV, mostV]
  rw [Bool.eq_false_iff]
  simp
  omega
theorem parts_all (k : Int) (n : Nat) (l : List ByteArray) (y : List UInt8) (g : Nat) (hl : l ≠ []) (hT : ∀ p ∈ l, isT p.data.toList) (hg : 2 * (joinL l).length + 2 ≤ g) :
    rdL g (some (k, n, [])) (joinL l ++ 41 :: y) = if wrong k l then none else endL k n l (41 :: y) := by
  by_cases hk : k = 6
  · subst hk
    cases l with
    | nil => exact absurd rfl hl
    | cons a r =>
      obtain ⟨nd, hon⟩ := isT_on (hT a List.mem_cons_self)
      obtain ⟨g, rfl⟩ : ∃ g', g = g' + 1 := ⟨g - 1, by omega⟩
      cases r with
      | nil =>
        rw [joinL] at hg ⊢
        rw [rdL_some]
        unfold ptL
        rw [hon (41 :: y) g (dl_cons (by decide)) (by omega)]
        simp only
        rw [take_front, if_neg (by simp), if_neg (by simp), bytesOf_data, if_neg (by rintro ⟨_, h, _⟩; simp at h)]
        rfl
      | cons b r =>
        have hposa : 1 ≤ a.data.toList.length := by
          have := (isT_ne (hT a List.mem_cons_self)).1
          cases h : a.data.toList with
          | nil => exact absurd h this
          | cons c t => simp
        rw [joinL] at hg ⊢
        rw [rdL_some]
        unfold ptL
        rw [List.append_assoc, List.cons_append, hon (44 :: (joinL (b :: r) ++ 41 :: y)) g (dl_cons (by decide)) (by rw [List.length_append] at hg; omega)]
        simp only
        rw [take_front, if_neg (by simp), if_pos (by rfl), bytesOf_data, List.tail_cons, List.nil_append]
        obtain ⟨nd2, hon2⟩ := isT_on (hT b (List.mem_cons_of_mem _ List.mem_cons_self))
        rw [List.length_append] at hg
        simp only [List.length_cons] at hg
        obtain ⟨g, rfl⟩ : ∃ g', g = g' + 1 := ⟨g - 1, by omega⟩
        cases r with
        | nil =>
          rw [joinL] at hg ⊢
          rw [rdL_some]
          unfold ptL
          rw [hon2 (41 :: y) g (dl_cons (by decide)) (by omega)]
          simp only
          rw [take_front, bytesOf_data]
          by_cases hgt : gtB a b = true
          · rw [if_pos (show True ∧ [a].length = 1 ∧ gtB ([a].getLastD ByteArray.empty) b = true from ⟨trivial, rfl, hgt⟩), if_pos (show wrong 6 [a, b] from ⟨rfl, rfl, hgt⟩)]
          · rw [if_neg (show ¬ (True ∧ [a].length = 1 ∧ gtB ([a].getLastD ByteArray.empty) b = true) by rintro ⟨_, _, h⟩; exact hgt h), if_neg (show ¬ wrong 6 [a, b] by rintro ⟨_, _, h⟩; exact hgt h), if_neg (by simp)]
            rfl
        | cons c r =>
          have hposb : 1 ≤ b.data.toList.length := by
            have := (isT_ne (hT b (List.mem_cons_of_mem _ List.mem_cons_self))).1
            cases h : b.data.toList with
            | nil => exact absurd h this
            | cons c t => simp
          have hend : endL 6 n (a :: b :: c :: r) (41 :: y) = none := by
            unfold endL
            simp only
            rw [if_neg]
            rw [fits6 _ (by simp)]
            decide
          rw [if_neg (show ¬ wrong 6 (a :: b :: c :: r) by rintro ⟨_, h, _⟩; simp at h), hend]
          rw [joinL] at hg ⊢
          rw [rdL_some]
          unfold ptL
          rw [List.append_assoc, List.cons_append, hon2 (44 :: (joinL (c :: r) ++ 41 :: y)) g (dl_cons (by decide)) (by rw [List.length_append] at hg; omega)]
          simp only
          split
          · rfl
          · rw [take_front, if_pos (by rfl), bytesOf_data, List.tail_cons]
            rw [parts_on 6 n (c :: r) _ y g (by simp) (fun p hp => hT p (List.mem_cons_of_mem _ (List.mem_cons_of_mem _ hp))) (.inr (by simp)) (by rw [List.length_append] at hg; simp at hg; omega)]
            exact hend
  · rw [parts_on k n l [] y g hl hT (.inl hk) hg, if_neg (by rintro ⟨h, _⟩; exact hk h)]
    rfl
theorem dig_nd (l : List UInt8) (h : l.all digB = true) : l.all nd_ = true := by
  rw [List.all_eq_true] at h ⊢
  intro c hc
  have h2 := h c hc
  unfold digB at h2
  simp only [Bool.and_eq_true, decide_eq_true_eq] at h2
  unfold nd_ del
  rw [Bool.not_eq_true', Bool.or_eq_false_iff, Bool.or_eq_false_iff, beq_eq_false_iff_ne, beq_eq_false_iff_ne, beq_eq_false_iff_ne]
  refine ⟨⟨?_, ?_⟩, ?_⟩
  all_goals
    intro e
    rw [e] at h2
    revert h2
    decide
theorem numK_dec (k : Int) (n : Nat) (h : n < 18446744073709551616) : numK k (Lib.decDigits n) = if allowedV k n = true then some n else none := by
  unfold numK
  rw [numR_dec n h]
  by_cases ha : allowedV k n = true
  · rw [if_pos ⟨rfl, ha⟩, if_pos ha]
  · rw [if_neg (by rintro ⟨_, h⟩; exact ha h), if_neg ha]
theorem openL_at (F : List UInt8 → Option (Nd × List UInt8)) (k : Int) (n : Nat) (z : List UInt8) (h : z.head? ≠ some 41) : openL F k n z = F z := by
  unfold openL; rw [if_neg h]
theorem joinL_head (l : List ByteArray) (hl : l ≠ []) (hT : ∀ p ∈ l, isT p.data.toList) (y : List UInt8) : (joinL l ++ y).head? ≠ some 41 ∧ joinL l ≠ [] := by
  cases l with
  | nil => exact absurd rfl hl
  | cons a r =>
    obtain ⟨h1, h2⟩ := isT_ne (hT a List.mem_cons_self)
    cases r with
    | nil => rw [joinL, head_app h1]; exact ⟨h2, h1⟩
    | cons b r =>
      rw [joinL, List.append_assoc, head_app h1]
      exact ⟨h2, by simp⟩
/-- May a term be of this kind and number, and have these parts? -/
def okV (k : Int) (n : Nat) (l : List ByteArray) : Prop := (numberedV k = true → allowedV k n = true) ∧ fitsV k l.length = true ∧ ¬ wrong k l
instance (k : Int) (n : Nat) (l : List ByteArray) : Decidable (okV k n l) := by unfold okV; exact inferInstance
theorem rd_txt5 (k : Int) (n : Nat) (b : List UInt8) (l : List ByteArray) (g : Nat) (h5 : 5 ≤ k) (h11 : k ≤ 11) (hn : n < 18446744073709551616) (hT : ∀ p ∈ l, isT p.data.toList) (hg : 2 * (txtL k n b l).length + 2 ≤ g) :
    rdL g none (txtL k n b l) = if okV k n l then some ((k, (if numberedV k = true then n else 0), [], l), []) else none := by
  obtain ⟨g, rfl⟩ : ∃ g', g = g' + 1 := ⟨g - 1, by omega⟩
  have hk := kind_let k (by omega) h11
  have hz : fitsV k (([] : List ByteArray).length : Nat) = decide (k = 11) := fits_zero h5 h11
  unfold txtL at hg ⊢
  rw [if_neg (by omega), if_neg (by omega), if_neg (by omega)] at hg ⊢
  rw [rdL_none]
  simp only [List.length_cons, List.length_append] at hg
  have hmain : ∀ (m : Nat) (l' : List UInt8), l' = joinL l ++ [41] → (numberedV k = true → m = n ∧ l ≠ []) → (numberedV k = false → m = 0) → (numberedV k = true → allowedV k n = true) →
      openL (rdL g (some (k, m, []))) k m l' = if okV k n l then some ((k, (if numberedV k = true then n else 0), [], l), []) else none := by
    rintro m l' rfl hm1 hm2 ha
    have hm : m = if numberedV k = true then n else 0 := by
      cases h : numberedV k with
      | true => rw [if_pos rfl]; exact (hm1 h).1
      | false => rw [if_neg (by decide)]; exact hm2 h
    rw [← hm]
    by_cases hl : l = []
    · subst hl
      unfold openL
      rw [if_pos (by rfl)]
      show endL k m [] [41] = _
      unfold endL
      simp only
      by_cases hf : fitsV k (([] : List ByteArray).length : Nat) = true
      · rw [if_pos hf, if_pos ⟨ha, hf, by rintro ⟨_, h, _⟩; simp at h⟩]
      · rw [if_neg hf, if_neg (by rintro ⟨_, h, _⟩; exact hf h)]
    · obtain ⟨h1, h2⟩ := joinL_head l hl hT [41]
      rw [openL_at _ _ _ _ h1, parts_all k m l [] g hl hT (by omega)]
      by_cases hw : wrong k l
      · rw [if_pos hw, if_neg (by rintro ⟨_, _, h⟩; exact h hw)]
      · rw [if_neg hw]
        unfold endL
        simp only
        by_cases hf : fitsV k l.length = true
        · rw [if_pos hf, if_pos ⟨ha, hf, hw⟩]
        · rw [if_neg hf, if_neg (by rintro ⟨_, h, _⟩; exact hf h)]
  cases hnb : numberedV k with
  | true =>
    rw [hnb] at hmain hg
    have hw := dig_nd _ (dec_dig n)
    rw [if_pos rfl] at hg ⊢
    by_cases hl : l = []
    · subst hl
      have hk8 : k ≠ 11 := by intro e; subst e; cases hnb
      rw [if_pos rfl, List.append_nil, if_neg (show ¬ okV k n [] by rintro ⟨_, h, _⟩; rw [hz] at h; exact hk8 (of_decide_eq_true h))]
      obtain ⟨t1, t2⟩ := tw_dl (Lib.decDigits n) [41] hw (dl_cons (by decide))
      rw [tmL, hk, if_neg (by omega), if_neg (by omega), if_neg (by omega), if_neg (by omega), if_neg (show ¬ ((40 :: (Lib.decDigits n ++ (joinL [] ++ [41]))).head? ≠ some 40) from fun h => h rfl), if_pos hnb, List.tail_cons]
      rw [show joinL [] ++ [41] = [41] from rfl, t1, t2]
      cases numK k (Lib.decDigits n) with
      | none => rfl
      | some m => simp
    · rw [if_neg hl, List.append_assoc, List.singleton_append]
      by_cases ha : allowedV k n = true
      · have hK := numK_dec k n hn
        rw [if_pos ha] at hK
        rw [tmL_num _ _ _ _ n (by rw [hk]; exact h5) (by rw [hk]; exact hnb) hw (by rw [hk]; exact hK), hk]
        have h := hmain n _ rfl (fun _ => ⟨rfl, hl⟩) (fun h => by cases h) (fun _ => ha)
        exact h
      · have hK := numK_dec k n hn
        rw [if_neg ha] at hK
        rw [if_neg (show ¬ okV k n l by rintro ⟨h, _⟩; exact ha (h hnb))]
        obtain ⟨t1, t2⟩ := tw_dl (Lib.decDigits n) (44 :: (joinL l ++ [41])) hw (dl_cons (by decide))
        rw [tmL, hk, if_neg (by omega), if_neg (by omega), if_neg (by omega), if_neg (by omega), if_neg (show ¬ ((40 :: (Lib.decDigits n ++ 44 :: (joinL l ++ [41]))).head? ≠ some 40) from fun h => h rfl), if_pos hnb, List.tail_cons, t1, hK]
  | false =>
    rw [hnb] at hmain
    rw [if_neg (by decide), List.nil_append, tmL_bare _ _ _ (by rw [hk]; exact h5) (by rw [hk]; exact hnb), hk]
    exact hmain 0 _ rfl (fun h => by cases h) (fun _ => rfl) (fun h => by cases h)
theorem numK_some {k : Int} {w : List UInt8} {n : Nat} (h : numK k w = some n) : w = Lib.decDigits n ∧ allowedV k n = true ∧ n < 18446744073709551616 := by
  unfold numK at h
  split at h
  · rename_i hc
    simp only [Option.some.injEq] at h
    subst h
    exact ⟨(numR_back w hc.1).symm, hc.2, numR_lt w⟩
  · cases h
/-- What the parts are, of which a text was read. -/
theorem parts_back : ∀ (f : Nat) (k : Int) (n : Nat) (acc : List ByteArray) (z y : List UInt8) (nd : Nd), rdL f (some (k, n, acc)) z = some (nd, y) →
    ∃ l, l ≠ [] ∧ z = joinL l ++ 41 :: y ∧ nd = (k, n, [], acc ++ l) ∧ fitsV k (acc ++ l).length = true ∧ ∀ p ∈ l, isT p.data.toList := by
  intro f
  induction f with
  | zero => intro _ _ _ _ _ _ h; cases h
  | succ f ih =>
    intro k n acc z y nd h
    rw [rdL_some] at h
    unfold ptL at h
    split at h
    · cases h
    · rename_i nd1 z1 hq
      obtain ⟨x, e, hx, hne⟩ := isT_of hq
      rw [e, take_front] at h
      have hxT : isT (bytesOf x).data.toList := by
        have : (bytesOf x).data.toList = x := rfl
        rw [this]; exact hx
      split at h
      · cases h
      · split at h
        · rename_i h44
          obtain ⟨l, hl, d1, d2, d3, d4⟩ := ih _ _ _ _ _ _ h
          refine ⟨bytesOf x :: l, by simp, ?_, ?_, ?_, ?_⟩
          · rw [e, head_tail h44, d1]
            cases l with
            | nil => exact absurd rfl hl
            | cons b r =>
              rw [joinL, List.append_assoc]
              rfl
          · rw [d2, List.append_assoc]; rfl
          · rw [List.append_assoc] at d3; exact d3
          · intro p hp
            rcases List.mem_cons.1 hp with rfl | hp
            · exact hxT
            · exact d4 p hp
        · obtain ⟨d1, d2, d3⟩ := endL_some h
          refine ⟨[bytesOf x], by simp, ?_, d3, d2, ?_⟩
          · rw [e, d1]; rfl
          · intro p hp
            rw [List.mem_singleton.1 hp]; exact hxT
/-- What was read is the text of what it was read as. -/
theorem rd_back (f : Nat) (z : List UInt8) (k : Int) (n : Nat) (b : List UInt8) (l : List ByteArray) (h : rdL f none z = some ((k, n, b, l), [])) :
    z = txtL k n b l ∧ 1 ≤ k ∧ k ≤ 11 ∧ okV k n l ∧ n < 18446744073709551616 ∧ (numberedV k = false → n = 0) ∧ (k ≠ 4 → b = []) ∧ (k ≤ 4 → l = []) ∧ (∀ p ∈ l, isT p.data.toList) := by
  have hwhole : isT z := by
    obtain ⟨x, e, hx, _⟩ := isT_of h
    rw [List.append_nil] at e
    rw [e]; exact hx
  cases f with
  | zero => cases h
  | succ f =>
    rw [rdL_none] at h
    cases z with
    | nil => cases h
    | cons c r =>
      rw [tmL] at h
      have hkr := kind_le (c.toNat : Int)
      split at h
      · cases h
      rename_i h0
      have hlet := let_kind c h0
      split at h
      · rename_i h1
        simp only [Option.some.injEq, Prod.mk.injEq] at h
        obtain ⟨⟨rfl, rfl, rfl, rfl⟩, rfl⟩ := h
        refine ⟨?_, by omega, by omega, ⟨by decide, by decide, by rintro ⟨h, _⟩; cases h⟩, by decide, fun _ => rfl, fun _ => rfl, fun _ => rfl, fun p hp => by cases hp⟩
        unfold txtL
        rw [h1] at hlet
        rw [hlet]
        rfl
      rename_i h1
      split at h
      · rename_i h23
        split at h
        · cases h
        · rename_i m hm
          simp only [Option.some.injEq, Prod.mk.injEq] at h
          obtain ⟨⟨hk, rfl, rfl, rfl⟩, hd⟩ := h
          obtain ⟨w1, w2, w3⟩ := numK_some hm
          have hs := tw_split r
          rw [hd, List.append_nil] at hs
          rw [hk] at hlet h23 w2
          have hk4 : k ≤ 4 := by omega
          refine ⟨?_, by omega, by omega, ⟨fun _ => w2, ?_, by rintro ⟨h, _⟩; omega⟩, w3, ?_, fun _ => rfl, fun _ => rfl, fun p hp => by cases hp⟩
          · unfold txtL
            rw [hlet, if_pos h23, ← w1, ← hs]
          · rcases h23 with rfl | rfl <;> decide
          · intro h; rcases h23 with rfl | rfl <;> cases h
      rename_i h23
      split at h
      · rename_i h4
        split at h
        · rename_i hx
          simp only [Option.some.injEq, Prod.mk.injEq] at h
          obtain ⟨⟨rfl, rfl, rfl, rfl⟩, hd⟩ := h
          have hs := tw_split r
          rw [hd, List.append_nil] at hs
          rw [h4] at hlet
          refine ⟨?_, by omega, by omega, ⟨by decide, by decide, by rintro ⟨h, _⟩; cases h⟩, by decide, fun _ => rfl, fun h => absurd rfl h, fun _ => rfl, fun p hp => by cases hp⟩
          unfold txtL
          rw [hlet, if_neg (by decide), if_pos rfl, hexR_back _ hx, ← hs]
        · cases h
      rename_i h4
      split at h
      · cases h
      rename_i h40
      have hr := head_tail (Decidable.byContradiction h40)
      have hopen : ∀ (m : Nat) (z1 : List UInt8), openL (rdL f (some (kindV c.toNat, m, []))) (kindV c.toNat) m z1 = some ((k, n, b, l), []) →
          z1 = joinL l ++ [41] ∧ k = kindV c.toNat ∧ n = m ∧ b = [] ∧ fitsV k l.length = true ∧ ∀ p ∈ l, isT p.data.toList := by
        intro m z1 h1
        unfold openL at h1
        split at h1
        · obtain ⟨e1, e2, e3⟩ := endL_some h1
          simp only [Prod.mk.injEq] at e3
          obtain ⟨rfl, rfl, rfl, rfl⟩ := e3
          exact ⟨e1, rfl, rfl, rfl, e2, fun p hp => by cases hp⟩
        · obtain ⟨l', hl', e1, e2, e3, e4⟩ := parts_back _ _ _ _ _ _ _ h1
          simp only [Prod.mk.injEq, List.nil_append] at e2
          obtain ⟨rfl, rfl, rfl, rfl⟩ := e2
          exact ⟨e1, rfl, rfl, rfl, e3, e4⟩
      -- the text, and from it the order of a Dh's parts
      have hfin : ∀ (hz : c :: r = txtL k n b l) (hk : k = kindV c.toNat) (hn : n < 18446744073709551616) (hT : ∀ p ∈ l, isT p.data.toList), okV k n l := by
        intro hz hk hn hT
        obtain ⟨nd, hw⟩ := isT_on hwhole
        have h1 := hw [] (2 * (c :: r).length + 2) (.inl rfl) (by omega)
        rw [List.append_nil, hz, rd_txt5 k n b l _ (by omega) (by omega) hn hT (by omega)] at h1
        split at h1
        · assumption
        · cases h1
      split at h
      · rename_i hnb
        split at h
        · cases h
        · rename_i m hm
          split at h
          · cases h
          · rename_i h44
            have h44' := head_tail (Decidable.byContradiction h44)
            obtain ⟨e1, e2, e3, e4, e5, e6⟩ := hopen _ _ h
            subst e3 e4
            obtain ⟨w1, w2, w3⟩ := numK_some hm
            rw [← e2] at hlet hnb w2 hkr h0 h1 h23 h4
            have hl : l ≠ [] := by
              rintro rfl
              rw [show (([] : List ByteArray).length : Int) = 0 from rfl, fits_zero (by omega) (by omega)] at e5
              have := of_decide_eq_true e5
              subst this
              cases hnb
            have hz : c :: r = txtL k n [] l := by
              unfold txtL
              rw [hlet, if_neg h23, if_neg h4, if_neg (by omega), if_pos hnb, if_neg hl, ← w1, List.append_assoc, List.singleton_append, ← e1, ← h44', ← tw_split, ← hr]
            exact ⟨hz, by omega, by omega, hfin hz e2 w3 e6, w3, (fun h => by rw [hnb] at h; cases h), fun _ => rfl, (fun h => by omega), e6⟩
      · rename_i hnb
        obtain ⟨e1, e2, e3, e4, e5, e6⟩ := hopen _ _ h
        subst e3 e4
        rw [← e2] at hlet hnb hkr h0 h1 h23 h4
        have hz : c :: r = txtL k 0 [] l := by
          unfold txtL
          rw [hlet, if_neg h23, if_neg h4, if_neg (by omega), if_neg hnb, List.nil_append, ← e1, ← hr]
        exact ⟨hz, by omega, by omega, hfin hz e2 (by decide) e6, by decide, fun _ => rfl, fun _ => rfl, fun h => by omega, e6⟩
end
section
open Go.RowKit Go.Deep

/-- The parts of a Dh in their order. -/
def sortV (k : Int) (l : List ByteArray) : List ByteArray := if wrong k l then [l.getD 1 ByteArray.empty, l.getD 0 ByteArray.empty] else l
theorem txt_len5 (k : Int) (n : Nat) (b : List UInt8) (l : List ByteArray) (h : 5 ≤ k) : (joinL l).length + 3 ≤ (txtL k n b l).length := by
  unfold txtL
  rw [if_neg (by omega), if_neg (by omega), if_neg (by omega)]
  simp only [List.length_cons, List.length_append, List.length_nil]
  omega
theorem join_mem (l : List ByteArray) (p : ByteArray) (h : p ∈ l) : p.size ≤ (joinL l).length := by
  induction l with
  | nil => cases h
  | cons a r ih =>
    have hsz : ∀ a : ByteArray, a.data.toList.length = a.size := fun _ => rfl
    cases r with
    | nil => rw [List.mem_singleton.1 h, joinL, hsz]; exact Nat.le_refl _
    | cons b r =>
      rw [joinL, List.length_append, List.length_cons, hsz]
      rcases List.mem_cons.1 h with h | h
      · rw [h]; omega
      · have := ih h; omega
theorem isT_parse (s : ByteArray) (h : s.size ≤ 65536) : isT s.data.toList ↔ ∃ nd, parseV s = some nd := by
  rw [parse_list, if_neg (by omega)]
  have hsz : s.data.toList.length = s.size := rfl
  constructor
  · intro hT
    obtain ⟨nd, hon⟩ := isT_on hT
    have := hon [] (2 * s.size + 2) (.inl rfl) (by omega)
    rw [List.append_nil] at this
    rw [this]
    exact ⟨nd, rfl⟩
  · rintro ⟨nd, h⟩
    unfold whole at h
    split at h
    · rename_i hq
      obtain ⟨x, e, hx, _⟩ := isT_of hq
      rw [List.append_nil] at e
      rw [e]; exact hx
    · cases h
/-- The text of a term, if there is one. -/
noncomputable def makeV (k : Int) (n : Nat) (b : List UInt8) (l : List ByteArray) : ByteArray :=
  if 1 ≤ k ∧ k ≤ 11 ∧ (numberedV k = true → allowedV k n = true) ∧ fitsV k l.length = true ∧ (∀ p ∈ l, (parseV p).isSome = true) ∧ (txtL k n b (sortV k l)).length ≤ 65536 then bytesOf (txtL k n b (sortV k l)) else ByteArray.empty
theorem parse_size {s : ByteArray} {nd : Nd} (h : parseV s = some nd) : s.size ≤ 65536 := by
  unfold parseV at h
  split at h
  · cases h
  · omega
/-- What is read is made anew of what it was read as. -/
theorem read_make {s : ByteArray} {k : Int} {n : Nat} {b : List UInt8} {l : List ByteArray} (h : parseV s = some (k, n, b, l)) :
    makeV k n b l = s ∧ 1 ≤ k ∧ k ≤ 11 ∧ fitsV k l.length = true ∧ n < 18446744073709551616 ∧ (numberedV k = false → n = 0) ∧ (k ≠ 4 → b = []) ∧ (∀ p ∈ l, (parseV p).isSome = true) ∧ (∀ p ∈ l, p.size ≤ s.size) ∧ ¬ wrong k l := by
  have hs := parse_size h
  rw [parse_list, if_neg (by omega)] at h
  have hq : rdL (2 * s.size + 2) none s.data.toList = some ((k, n, b, l), []) := by
    unfold whole at h
    split at h
    · rename_i hq
      simp only [Option.some.injEq] at h
      rw [hq, h]
    · cases h
  obtain ⟨h1, h2, h3, h4, h5, h6, h7, h8, h9⟩ := rd_back _ _ _ _ _ _ hq
  have hsz : s.data.toList.length = s.size := rfl
  have hsm : ∀ p ∈ l, p.size ≤ s.size := by
    intro p hp
    by_cases hk : k ≤ 4
    · rw [h8 hk] at hp; cases hp
    · have a := join_mem l p hp
      have b := txt_len5 k n b l (by omega)
      rw [← h1] at b
      omega
  have hps : ∀ p ∈ l, (parseV p).isSome = true := by
    intro p hp
    obtain ⟨nd, e⟩ := (isT_parse p (by have := hsm p hp; omega)).1 (h9 p hp)
    rw [e]; rfl
  have hsort : sortV k l = l := by unfold sortV; rw [if_neg h4.2.2]
  refine ⟨?_, h2, h3, h4.2.1, h5, h6, h7, hps, hsm, h4.2.2⟩
  unfold makeV
  rw [hsort, if_pos ⟨h2, h3, h4.1, h4.2.1, hps, by rw [← h1]; omega⟩, ← h1]
  exact bytesOf_data s
end
section
open Go.RowKit Go.Deep

def bytT (s : ByteArray) : List UInt8 × Bool := match parseV s with | none => ([], false) | some nd => if nd.1 = 4 then (nd.2.2.1, true) else ([], false)
def parT (s : ByteArray) : List ByteArray := match parseV s with | none => [] | some nd => nd.2.2.2
def BytesPost (r : List UInt8 × Bool) (w : World) (e : Ending) (w' : World) : Prop :=
  ∃ v, e = .returned (.tuple #[v, .bool r.2]) ∧ Only [] w w' ∧ ∀ N : List Nat, (∀ x ∈ N, x < w.heap.size) → Rd w' N v (ints .u8 (byts r.1))
theorem bytespost {r : List UInt8 × Bool} {l : List UInt8} {b : Bool} {v : Value} {w w' : World} (h : r = (l, b)) (ho : Only [] w w') (hr : ∀ N : List Nat, (∀ x ∈ N, x < w.heap.size) → Rd w' N v (ints .u8 (byts l))) :
    BytesPost r w (.returned (.tuple #[v, .bool b])) w' := by subst h; exact ⟨_, rfl, ho, hr⟩
def PartsPost (r : List ByteArray) (w : World) (e : Ending) (w' : World) : Prop :=
  ∃ v, e = .returned v ∧ Only [] w w' ∧ ∀ N : List Nat, (∀ x ∈ N, x < w.heap.size) → Rd w' N v (strs r)
theorem partspost {r l : List ByteArray} {v : Value} {w w' : World} (h : r = l) (ho : Only [] w w') (hr : ∀ N : List Nat, (∀ x ∈ N, x < w.heap.size) → Rd w' N v (strs l)) :
    PartsPost r w (.returned v) w' := by subst h; exact ⟨_, rfl, ho, hr⟩
/-- The texts of a slice, as cells. -/
theorem rd_strs {w : World} {N : List Nat} {A : Option Addr} {n cap : Nat} {l : List ByteArray} (h : Rd w N (.slice A n cap) (strs l)) (h0 : 0 < l.length) :
    ∃ g o, A = some ⟨g, o, none⟩ ∧ n = l.length ∧ ∀ i, i < l.length → w.cell? ⟨g, o + i, none⟩ = some (.string (l.getD i ByteArray.empty)) := by
  obtain ⟨h1, _, _, h2⟩ := h.at_
  have key : ∀ i, i < l.length → (strs l)[i]? = some (.string (l.getD i ByteArray.empty)) := by
    intro i hi
    simp [strs, List.getElem?_eq_getElem hi]
  obtain ⟨g, o, hA, _, _, _⟩ := h2 0 _ (key 0 h0)
  refine ⟨g, o, hA, by rw [h1, strs_length], fun i hi => ?_⟩
  obtain ⟨g', o', hA', _, _, hc⟩ := h2 i _ (key i hi)
  rw [hA] at hA'
  injection hA' with hA'
  injection hA' with e1 e2
  subst e1 e2
  exact hc

set_option maxRecDepth 100000 in
set_option maxHeartbeats 3200000 in
theorem Bytes_any (w : World) (s : ByteArray) (hs : s.size ≤ maxLen) : Calls Tryd.prog 64 #[.string s] w (BytesPost (bytT s) w) := by
  have HP := hide (parse_any w s hs)
  cases hp : parseV s with
  | none =>
    rw [hp] at HP
    have HV := hide (show bytT s = ([], false) by unfold bytT; rw [hp])
    clear hp
    go_enter Tryd.func64, Tryd.ntmps64
    go_wp2_with (go_at_call 78; refine HP.out.mono ?_; rintro e w1 ⟨rfl, ho⟩; unfold nd0; have HO := hide ho; clear ho)
    go_ret2
    exact bytespost HV.out (HO.out.alloc _) (fun N _ => Rd.nil _ N)
  | some nd =>
    obtain ⟨k, n, bs, parts⟩ := nd
    rw [hp] at HP
    by_cases hk : k = 4
    · have HV := hide (show bytT s = (bs, true) by unfold bytT; rw [hp]; simp only; rw [if_pos hk])
      have hkb : (k != 4) = false := by rw [bne_eq_false_iff_eq]; exact hk
      clear hp hk
      go_enter Tryd.func64, Tryd.ntmps64
      go_wp2_with (go_at_call 78; refine HP.out.mono ?_; rintro e w1 ⟨bv, pv, rfl, ho, hb, hp⟩; obtain ⟨A, cap, rfl, _, _⟩ := (hb [] (by simp)).formb; obtain ⟨A2, cap2, rfl, _, _⟩ := (hp [] (by simp)).form; have HO := hide ho; have HRB := hide hb; clear ho hb hp)
      go_ret2
      exact bytespost HV.out (HO.out.alloc _) (fun N hN => (HRB.out N hN).only ((Only.refl [] _).alloc _) (by simp))
    · have HV := hide (show bytT s = ([], false) by unfold bytT; rw [hp]; simp only; rw [if_neg hk])
      have hkb : (k != 4) = true := by rw [bne_iff_ne]; exact hk
      clear hp hk
      go_enter Tryd.func64, Tryd.ntmps64
      go_wp2_with (go_at_call 78; refine HP.out.mono ?_; rintro e w1 ⟨bv, pv, rfl, ho, hb, hp⟩; obtain ⟨A, cap, rfl, _, _⟩ := (hb [] (by simp)).formb; obtain ⟨A2, cap2, rfl, _, _⟩ := (hp [] (by simp)).form; have HO := hide ho; clear ho hb hp)
      go_ret2
      exact bytespost HV.out (HO.out.alloc _) (fun N _ => Rd.nil _ N)

set_option maxRecDepth 100000 in
set_option maxHeartbeats 3200000 in
theorem Parts_any (w : World) (s : ByteArray) (hs : s.size ≤ maxLen) : Calls Tryd.prog 63 #[.string s] w (PartsPost (parT s) w) := by
  have HP := hide (parse_any w s hs)
  cases hp : parseV s with
  | none =>
    rw [hp] at HP
    have HV := hide (show parT s = [] by unfold parT; rw [hp])
    clear hp
    go_enter Tryd.func63, Tryd.ntmps63
    go_wp2_with (go_at_call 78; refine HP.out.mono ?_; rintro e w1 ⟨rfl, ho⟩; unfold nd0; have HO := hide ho; clear ho)
    go_ret
    exact partspost HV.out (HO.out.alloc _) (fun N _ => Rd.nil _ N)
  | some nd =>
    obtain ⟨k, n, bs, parts⟩ := nd
    rw [hp] at HP
    have HV := hide (show parT s = parts by unfold parT; rw [hp])
    clear hp
    go_enter Tryd.func63, Tryd.ntmps63
    go_wp2_with (go_at_call 78; refine HP.out.mono ?_; rintro e w1 ⟨bv, pv, rfl, ho, hb, hp⟩; obtain ⟨A, cap, rfl, _, _⟩ := (hb [] (by simp)).formb; obtain ⟨A2, cap2, rfl, _, _⟩ := (hp [] (by simp)).form; have HO := hide ho; have HRP := hide hp; clear ho hb hp)
    go_ret
    exact partspost HV.out (HO.out.alloc _) (fun N hN => (HRP.out N hN).only ((Only.refl [] _).alloc _) (by simp))
end
section
open Go.RowKit Go.Deep

theorem three_of {k : Int} {parts : List ByteArray} (hk : k = 10) (hm : fitsV k parts.length = true) : ∃ a b c, parts = [a, b, c] := by
  subst hk
  have hl : parts.length = 3 := by
    simp only [fitsV, leastV, mostV] at hm
    simp at hm
    omega
  match parts, hl with
  | [a, b, c], _ => exact ⟨a, b, c, rfl⟩
end
section
open Go.RowKit Go.Deep

set_option maxRecDepth 100000 in
set_option maxHeartbeats 3200000 in
theorem readR_all (w : World) (s : ByteArray) (_hs : s.size ≤ maxLen) : Calls Tryd.prog 47 #[.string s] w (ReadRPost (parseV s) w) := by
  by_cases hlt : 65536 < s.size
  · have HB := hide (Blk.new w 88 zeroN)
    have HO := hide ((Only.refl [] w).alloc (.cells zeroN 88))
    unfold zeroN at HB HO
    have hltI : (65536 : Int) < s.size := by omega
    have HR := hide (show parseV s = none by unfold parseV; rw [if_pos hlt])
    unfold maxLen at _hs
    clear hlt
    go_enter Tryd.func47, Tryd.ntmps47
    go_wp2_with fail
    refine bodyPost_ret (results_cell_row rfl _ _ w.heap.size 88 _ (0, 0) _ rfl HB.out Tryd.underlying88 rfl (by kernel_rfl)) rfl ?_
    exact readR_no HR.out HO.out
  · exact readR_any w s (by omega)

set_option maxRecDepth 100000 in
set_option maxHeartbeats 1600000 in
theorem isR_all (w : World) (s : ByteArray) (hs : s.size ≤ maxLen) : Calls Tryd.prog 67 #[.string s] w (RetB (parseV s).isSome w) := by
  have HP := hide (readR_all w s hs)
  have HK := hide (fun k n b l (h : parseV s = some (k, n, b, l)) => kind_pos h)
  cases hr : parseV s with
  | none =>
    rw [hr] at HP
    unfold ReadRPost nd0 at HP
    simp only at HP
    have hf : ∀ W : World, (Instr.field 88 (.agg #[.int .i64 0, .int .u64 0, .slice none 0 0, .slice none 0 0]) 0).run Tryd.prog W = .ok (.int .i64 0) W := fun W => by kernel_rfl
    go_enter Tryd.func67, Tryd.ntmps67
    go_wp2_with (go_at_call 47; refine HP.out.mono ?_; rintro e w2 ⟨rfl, ho⟩; have HO := hide ho; clear ho)
    go_ret
    exact retb rfl HO.out
  | some nd =>
    obtain ⟨k, n, bs, parts⟩ := nd
    have hk := HK.out _ _ _ _ hr
    have hkb : (0 : Int) < k := by omega
    rw [hr] at HP
    unfold ReadRPost at HP
    simp only at HP
    have hf : ∀ (A1 A2 : Option Addr) (n1 c1 n2 c2 : Nat) (W : World), (Instr.field 88 (.agg #[.int .i64 k, .int .u64 (n : Nat), .slice A1 n1 c1, .slice A2 n2 c2]) 0).run Tryd.prog W = .ok (.int .i64 k) W := fun A1 A2 n1 c1 n2 c2 W => by kernel_rfl
    clear hk HK
    go_enter Tryd.func67, Tryd.ntmps67
    go_wp2_with (go_at_call 47; refine HP.out.mono ?_; rintro e w2 ⟨bv, pv, rfl, ho, hb, hp⟩; obtain ⟨A1, cap1, rfl, _, _⟩ := (hb [] (by simp)).formb; obtain ⟨A2, cap2, rfl, _, _⟩ := (hp [] (by simp)).form; have HO := hide ho; clear ho hb hp)
    go_ret
    exact retb rfl HO.out
end
section
open Go.RowKit Go.Deep Go.Maps Go.WideMaps

section no
variable {k : Int} {n : Nat} {b : List UInt8} {l : List ByteArray}
theorem make_no (h : ¬ (1 ≤ k ∧ k ≤ 11 ∧ (numberedV k = true → allowedV k n = true) ∧ fitsV k l.length = true ∧ (∀ p ∈ l, (parseV p).isSome = true) ∧ (txtL k n b (sortV k l)).length ≤ 65536)) : makeV k n b l = ByteArray.empty := by
  unfold makeV; rw [if_neg h]
theorem make_data (hk : k = 4) (h : 65536 < b.length) : makeV k n b l = ByteArray.empty := make_no (by
  rintro ⟨_, _, _, _, _, ht⟩
  subst hk
  unfold txtL at ht
  rw [if_neg (by omega), if_pos rfl, List.length_cons, hexS_length] at ht
  omega)
end no
end
section
open Go.RowKit Go.Deep

/-- Blocks of other types than the Builder's own are kept. -/
def Held (w w' : World) : Prop := ∀ (g : Nat) (t : TypeId) (cs : Array Value), t ≠ 5 → t ≠ 63 → Blk w g t cs → Blk w' g t cs
theorem Held.trans {a b c : World} (h : Held a b) (k : Held b c) : Held a c := fun g t cs h1 h2 hb => k g t cs h1 h2 (h g t cs h1 h2 hb)
end
section
open Go.RowKit Go.Deep

/-- What a text is as a term: kind 0, if it is none. -/
def whatV (s : ByteArray) : Nd := (parseV s).getD (0, 0, [], [])
theorem what_kind (s : ByteArray) : kindT s = (whatV s).1 := by unfold kindT whatV; cases parseV s <;> rfl
theorem what_bytes (s : ByteArray) : bytT s = ((whatV s).2.2.1, decide ((whatV s).1 = 4)) := by
  unfold bytT whatV
  cases h : parseV s with
  | none => rfl
  | some nd =>
    obtain ⟨k, n, b, l⟩ := nd
    have hm := (read_make h).2.2.2.2.2.2.1
    simp only [Option.getD_some]
    by_cases h4 : k = 4
    · rw [if_pos h4, decide_eq_true h4]
    · rw [if_neg h4, decide_eq_false h4, hm h4]
theorem what_parts (s : ByteArray) : parT s = (whatV s).2.2.2 := by unfold parT whatV; cases parseV s <;> rfl
/-- The reference's Read, in that word. -/
theorem readR_what (w : World) (s : ByteArray) (hs : s.size ≤ maxLen) : Calls Tryd.prog 47 #[.string s] w fun e w' => ∃ bv pv, e = .returned (.agg #[.int .i64 (whatV s).1, .int .u64 ((whatV s).2.1 : Nat), bv, pv]) ∧ Only [] w w' ∧
      Rd w' [] bv (ints .u8 (byts (whatV s).2.2.1)) ∧ Rd w' [] pv (strs (whatV s).2.2.2) :=
  (readR_all w s hs).mono fun e w' h => by
    unfold ReadRPost at h
    unfold whatV
    cases hp : parseV s with
    | none =>
      rw [hp] at h
      exact ⟨_, _, h.1, h.2, Rd.nil _ _, Rd.nil _ _⟩
    | some nd =>
      rw [hp] at h
      obtain ⟨bv, pv, h1, h2, h3, h4⟩ := h
      exact ⟨bv, pv, h1, h2, h3 [] (by simp), h4 [] (by simp)⟩
end
end Go.Proofs.YteoifokmbkpbnaaDoor

/-
  Walks and plain words (texts Ge, Kz, Rt11, Is). No condition beyond those that each theorem states.
-/
import Derived.Test.YtfipdjlalfpbnaaGreatDoorP06
import Derived.Test.YtfipdjlalfpbnaaGreatDoorP07
import Derived.Test.YtfipdjlalfpbnaaGreatDoorP08
import Derived.Test.YtfipdjlalfpbnaaGreatDoorP09
import Derived.Test.YtfipdjlalfpbnaaGreatDoorP10
namespace Go.Proofs.YtfipdjlalfpbnaaGreatDoor
section
open Go.RowKit Go.Deep

/-- Where a term ends in front of a bracket that opens, there is none. -/
def good (s : ByteArray) (x : Option (Nd × Nat)) : Option (Nd × Nat) :=
  match x with
  | none => none
  | some (nd, q) => if atV s q = 40 then none else some (nd, q)
theorem good_some {s : ByteArray} {x : Option (Nd × Nat)} {nd : Nd} {q : Nat} (h : good s x = some (nd, q)) : x = some (nd, q) ∧ atV s q ≠ 40 := by
  unfold good at h
  split at h
  · cases h
  · split at h
    · cases h
    · rename_i h40
      simp only [Option.some.injEq, Prod.mk.injEq] at h
      obtain ⟨rfl, rfl⟩ := h
      exact ⟨rfl, h40⟩
theorem peek_at (s : ByteArray) (p : Nat) (c : Nat) (hc : c ≠ 0) : peekV s p (c : Int) = decide (atV s p = c) := by
  unfold peekV atV
  split
  · rw [Bool.eq_iff_iff]; simp; omega
  · rw [eq_comm, decide_eq_false_iff_not]; omega
theorem numR_bad40 {l : List UInt8} (h : (40 : UInt8) ∈ l) : (numR l).2 ≠ 0 := by
  unfold numR
  split
  · decide
  · split
    · decide
    · rename_i h1
      exact absurd (List.all_eq_false.2 ⟨40, h, by decide⟩) h1
theorem hexR_bad40 {l : List UInt8} (h : (40 : UInt8) ∈ l) : (hexR l).2 ≠ 0 := by
  unfold hexR
  split
  · decide
  · rename_i h1
    exact absurd (List.all_eq_false.2 ⟨40, h, by decide⟩) h1
theorem numK_bad40 {k : Int} {l : List UInt8} (h : (40 : UInt8) ∈ l) : numK k l = none := by
  unfold numK
  rw [if_neg (by rintro ⟨a, _⟩; exact numR_bad40 h a)]
/-- The two words' ends. -/
theorem take_two (l : List UInt8) : (l.takeWhile fun c => !delR c) = (l.takeWhile fun c => !del c) ∧ ((l.drop (l.takeWhile fun c => !del c).length).head? ≠ some 40) ∨
    (40 : UInt8) ∈ (l.takeWhile fun c => !delR c) ∧ (l.drop (l.takeWhile fun c => !del c).length).head? = some 40 := by
  induction l with
  | nil => left; simp
  | cons c r ih =>
    by_cases h : del c = true
    · by_cases h40 : c = 40
      · subst h40
        right
        have : delR 40 = false := by decide
        simp [this, h]
      · left
        have h2 : delR c = true := by
          unfold del at h
          unfold delR
          simp only [Bool.or_eq_true, beq_iff_eq] at h ⊢
          rcases h with h | h
          · exact h
          · exact absurd h h40
        simp [h, h2, h40]
    · have h1 : del c = false := by simpa using h
      have h2 : delR c = false := by
        unfold del at h1
        unfold delR
        simp only [Bool.or_eq_false_iff] at h1 ⊢
        exact h1.1
      rw [List.takeWhile_cons_of_pos (by rw [h2]; rfl), List.takeWhile_cons_of_pos (by rw [h1]; rfl)]
      rcases ih with ⟨a, b⟩ | ⟨a, b⟩
      · left; rw [a]; exact ⟨rfl, by simpa using b⟩
      · right; exact ⟨List.mem_cons_of_mem _ a, by simpa using b⟩
theorem at_head (s : ByteArray) (p : Nat) : atV s p = 40 ↔ (s.data.toList.drop p).head? = some 40 := by
  unfold atV
  split
  · rename_i h
    rw [drop_at s p h]
    simp only [List.head?_cons, Option.some.injEq]
    constructor
    · intro e; exact UInt8.toNat_inj.1 e
    · intro e; rw [e]; rfl
  · rename_i h
    rw [List.drop_of_length_le (by simpa using h)]
    simp
theorem ext_take (s : ByteArray) (p n : Nat) : (s.extract p (p + n)).data.toList = (s.data.toList.drop p).take n := by
  rw [ByteArray.data_extract, Array.toList_extract]
  simp [List.extract]
theorem take_while_take (l : List UInt8) (f : UInt8 → Bool) : l.take (l.takeWhile f).length = l.takeWhile f := by
  induction l with
  | nil => rfl
  | cons c r ih =>
    by_cases h : f c = true
    · rw [List.takeWhile_cons_of_pos h]; simp [ih]
    · rw [List.takeWhile_cons_of_neg h]; rfl
theorem word_two (s : ByteArray) (p : Nat) : (wendR s p = wend s p ∧ atV s (wend s p) ≠ 40) ∨ ((40 : UInt8) ∈ (s.extract p (wendR s p)).data.toList ∧ atV s (wend s p) = 40) := by
  unfold wendR wend
  rw [ext_take, take_while_take, Ne, at_head]
  rcases take_two (s.data.toList.drop p) with ⟨a, b⟩ | ⟨a, b⟩
  · left
    refine ⟨by rw [a], ?_⟩
    rw [List.drop_drop] at b
    exact b
  · right
    refine ⟨a, ?_⟩
    rw [List.drop_drop] at b
    exact b
theorem fits_right {k c : Int} (h : 5 ≤ k) (h2 : k ≤ 11) (hc : 1 ≤ c) : fitsV k c = rightR k c := by
  rcases (show k = 5 ∨ k = 6 ∨ k = 7 ∨ k = 8 ∨ k = 9 ∨ k = 10 ∨ k = 11 by omega) with rfl | rfl | rfl | rfl | rfl | rfl | rfl
  all_goals
    simp only [fitsV, rightR, leastV, mostV]
    rw [Bool.eq_iff_iff]
    simp
    try omega
theorem fits_zero {k : Int} (h : 5 ≤ k) (h2 : k ≤ 11) : fitsV k 0 = decide (k = 11) := by
  rcases (show k = 5 ∨ k = 6 ∨ k = 7 ∨ k = 8 ∨ k = 9 ∨ k = 10 ∨ k = 11 by omega) with rfl | rfl | rfl | rfl | rfl | rfl | rfl
  all_goals decide
theorem kind_le (c : Int) : 0 ≤ kindV c ∧ kindV c ≤ 11 := by
  unfold kindV
  repeat' split
  all_goals omega
theorem rt_long (s : ByteArray) : ∀ (f n : Nat) (parts : List ByteArray) (p : Nat), 2 ≤ parts.length → rt s f (some (6, n, parts)) p = none := by
  intro f
  induction f with
  | zero => intros; rfl
  | succ f ih =>
    intro n parts p hp
    rw [rt]
    split
    · rfl
    · split
      · rw [if_neg]
        rintro ⟨h, _⟩
        have := of_decide_eq_true (show decide (((parts.length + 1 : Nat) : Int) = 2) = true from h)
        omega
      · split
        · rfl
        · exact ih _ _ _ (by rw [List.length_append]; simp; omega)
theorem rt_close (s : ByteArray) (f : Nat) (k : Int) (n : Nat) (p : Nat) (h : atV s p = 41) : rt s f (some (k, n, [])) p = none := by
  cases f with
  | zero => rfl
  | succ f =>
    rw [rt]
    cases f with
    | zero => rfl
    | succ f => rw [rt, if_pos (by rw [h]; decide)]
theorem last_two (a b : ByteArray) : ([a] ++ [b]).getD 0 ByteArray.empty = a ∧ ([a] ++ [b]).getD 1 ByteArray.empty = b := ⟨rfl, rfl⟩
theorem good_rt (s : ByteArray) : ∀ (f : Nat) (m : Option (Int × Nat × List ByteArray)) (p : Nat), (∀ k n l, m = some (k, n, l) → 5 ≤ k ∧ k ≤ 11) → good s (rt s f m p) = good s (rd s f m p) := by
  intro f
  induction f with
  | zero => intro m p _; rfl
  | succ f ih =>
    intro m p hm
    have hrest : ∀ (k : Int) (n : Nat) (j : Nat), 5 ≤ k → k ≤ 11 → good s (if k = 11 ∧ atV s j = 41 then some ((11, n, [], []), j + 1) else rt s f (some (k, n, [])) j) =
        good s (if peekV s j 41 = true then rdEnd s k n [] j else rd s f (some (k, n, [])) j) := by
      intro k n j h5 h11
      rw [show (41 : Int) = ((41 : Nat) : Int) from rfl, peek_at s j 41 (by decide)]
      by_cases h41 : atV s j = 41
      · rw [if_pos (show decide (atV s j = 41) = true from decide_eq_true h41)]
        unfold rdEnd
        rw [show (41 : Int) = ((41 : Nat) : Int) from rfl, peek_at s j 41 (by decide), if_pos (decide_eq_true h41)]
        rw [show (([] : List ByteArray).length : Int) = 0 from rfl, fits_zero h5 h11]
        by_cases h : k = 11
        · subst h; rw [if_pos ⟨rfl, h41⟩, if_pos (by decide)]
        · rw [if_neg (by rintro ⟨a, _⟩; exact h a), if_neg (by rw [decide_eq_false h]; decide), rt_close s f k n j h41]
      · rw [if_neg (by rintro ⟨_, a⟩; exact h41 a), if_neg (by rw [decide_eq_false h41]; decide)]
        exact ih _ _ (by intro k' n' l' e; cases e; exact ⟨h5, h11⟩)
    cases m with
    | none =>
      rw [rt, rd]
      by_cases hp : p < s.size
      · have hat : atV s p = s[p].toNat := by unfold atV; rw [dif_pos hp]
        rw [dif_pos hp, hat]
        have hkr := kind_le (s[p].toNat : Int)
        generalize kindV (s[p].toNat : Int) = k at *
        by_cases h0 : k = 0
        · rw [if_pos h0, if_pos h0]
        rw [if_neg h0, if_neg h0]
        by_cases h4 : k ≤ 4
        · rw [if_pos h4]
          unfold leafV
          by_cases h1 : k = 1
          · rw [if_pos h1, if_pos h1]
          rw [if_neg h1, if_neg h1]
          have ww := word_two s (p + 1)
          by_cases h23 : k = 2 ∨ k = 3
          · rw [if_pos h23, if_neg (by omega)]
            rcases ww with ⟨a, b⟩ | ⟨a, b⟩
            · rw [a]
              try (cases numK k (s.extract (p + 1) (wend s (p + 1))).data.toList <;> rfl)
            · rw [numK_bad40 a]
              simp only
              cases numK k (s.extract (p + 1) (wend s (p + 1))).data.toList with
              | none => rfl
              | some n => unfold good; simp only; rw [if_pos b]
          · have h4' : k = 4 := by omega
            rw [if_neg h23, if_pos h4', if_pos h4']
            rcases ww with ⟨a, b⟩ | ⟨a, b⟩
            · rw [a]
            · rw [if_neg (hexR_bad40 a)]
              split
              · unfold good; simp only; rw [if_pos b]
              · rfl
        rw [if_neg h4, if_neg (show ¬ k = 1 by omega), if_neg (show ¬ (k = 2 ∨ k = 3) by omega), if_neg (show ¬ k = 4 by omega)]
        rw [show (40 : Int) = ((40 : Nat) : Int) from rfl, peek_at s (p + 1) 40 (by decide)]
        by_cases h40 : atV s (p + 1) = 40
        · rw [if_neg (show ¬ (atV s (p + 1) ≠ 40) by rw [h40]; simp), if_neg (show ¬ (decide (atV s (p + 1) = 40) = false) by rw [decide_eq_true h40]; decide)]
          have hnb : numberedV k = decide (k = 8 ∨ k = 10) := by
            unfold numberedV
            rw [Bool.eq_iff_iff]
            simp
            omega
          rw [hnb]
          by_cases h8 : k = 8 ∨ k = 10
          · rw [if_pos h8, if_pos (decide_eq_true h8)]
            rcases word_two s (p + 2) with ⟨a, b⟩ | ⟨a, b⟩
            · rw [a]
              cases numK k (s.extract (p + 2) (wend s (p + 2))).data.toList with
              | none => rfl
              | some n =>
                simp only
                rw [show (44 : Int) = ((44 : Nat) : Int) from rfl, peek_at s _ 44 (by decide)]
                by_cases h44 : atV s (wend s (p + 2)) = 44
                · rw [if_neg (by rw [h44]; simp), if_neg (by rw [decide_eq_true h44]; decide)]
                  have h := hrest k n (wend s (p + 2) + 1) (by omega) (by omega)
                  rw [if_neg (by omega)] at h
                  exact h
                · rw [if_pos h44, if_pos (decide_eq_false h44)]
            · rw [numK_bad40 a]
              simp only
              cases numK k (s.extract (p + 2) (wend s (p + 2))).data.toList with
              | none => rfl
              | some n =>
                simp only
                rw [show (44 : Int) = ((44 : Nat) : Int) from rfl, peek_at s _ 44 (by decide), if_pos (by rw [b]; decide)]
          · rw [if_neg h8, if_neg (show ¬ (decide (k = 8 ∨ k = 10) = true) by rw [decide_eq_false h8]; decide)]
            exact hrest k 0 (p + 2) (by omega) (by omega)
        · rw [if_pos h40, if_pos (decide_eq_false h40)]
      · have hat : atV s p = 0 := by unfold atV; rw [dif_neg hp]
        rw [dif_neg hp, hat, if_pos (by decide)]
    | some kp =>
      obtain ⟨k, n, parts⟩ := kp
      obtain ⟨h5, h11⟩ := hm _ _ _ rfl
      have h0 := ih none p (by intro _ _ _ e; cases e)
      rw [rt, rd_some]
      cases hg : good s (rd s f none p) with
      | none =>
        rw [hg] at h0
        have hA : ∀ x, good s x = none → x = none ∨ ∃ nd q, x = some (nd, q) ∧ atV s q = 40 := by
          intro x hx
          cases x with
          | none => exact .inl rfl
          | some y =>
            obtain ⟨nd, q⟩ := y
            right
            refine ⟨nd, q, rfl, ?_⟩
            unfold good at hx
            simp only at hx
            split at hx
            · assumption
            · cases hx
        have e1 : good s (match rd s f none p with
            | none => none
            | some (_, q) =>
              if k = 6 ∧ parts.length = 1 ∧ gtB (parts.getLastD ByteArray.empty) (s.extract p q) = true then none
              else if peekV s q 44 = true then rd s f (some (k, n, parts ++ [s.extract p q])) (q + 1)
              else rdEnd s k n (parts ++ [s.extract p q]) q) = none := by
          rcases hA _ hg with h | ⟨nd, q, h, hq⟩
          · rw [h]; rfl
          · rw [h]
            simp only
            split
            · rfl
            · rw [show (44 : Int) = ((44 : Nat) : Int) from rfl, peek_at s q 44 (by decide), if_neg (by rw [hq]; decide)]
              unfold rdEnd
              rw [show (41 : Int) = ((41 : Nat) : Int) from rfl, peek_at s q 41 (by decide), if_neg (by rw [hq]; decide)]
              rfl
        refine Eq.trans ?_ e1.symm
        rcases hA _ h0 with h | ⟨nd, q, h, hq⟩
        · rw [h]; rfl
        · rw [h]; simp only; rw [if_neg (show ¬ atV s q = 41 by rw [hq]; decide), if_pos (show atV s q ≠ 44 by rw [hq]; decide)]; rfl
      | some y =>
        obtain ⟨nd, q⟩ := y
        rw [hg] at h0
        obtain ⟨e1, hq⟩ := good_some h0
        obtain ⟨e2, _⟩ := good_some hg
        rw [e1, e2]
        simp only
        unfold rdEnd
        rw [show (44 : Int) = ((44 : Nat) : Int) from rfl, show (41 : Int) = ((41 : Nat) : Int) from rfl, peek_at s q 44 (by decide), peek_at s q 41 (by decide)]
        have hlen : (parts ++ [s.extract p q]).length = parts.length + 1 := by simp
        rw [hlen, fits_right h5 h11 (by omega)]
        by_cases hgt : k = 6 ∧ parts.length = 1 ∧ gtB (parts.getLastD ByteArray.empty) (s.extract p q) = true
        · rw [if_pos hgt]
          obtain ⟨rfl, hl, hgt⟩ := hgt
          obtain ⟨a, rfl⟩ : ∃ a, parts = [a] := by
            cases parts with
            | nil => simp at hl
            | cons a r => cases r with
              | nil => exact ⟨a, rfl⟩
              | cons b r => simp at hl
          rw [(last_two a _).1, (last_two a _).2]
          rw [if_neg (show ¬ (rightR 6 _ = true ∧ _) by rintro ⟨_, h⟩; exact h ⟨rfl, hgt⟩), rt_long s f n _ _ (by simp)]
          split
          · rfl
          · split <;> rfl
        · rw [if_neg hgt]
          by_cases h41 : atV s q = 41
          · rw [if_pos h41, if_neg (show ¬ (decide (atV s q = 44) = true) by rw [h41]; decide), if_pos (show decide (atV s q = 41) = true by rw [h41]; decide)]
            by_cases hr : rightR k ((parts.length + 1 : Nat) : Int) = true
            · rw [if_pos hr, if_pos]
              refine ⟨hr, ?_⟩
              rintro ⟨rfl, hh⟩
              have hl := of_decide_eq_true (show decide (((parts.length + 1 : Nat) : Int) = 2) = true from hr)
              obtain ⟨a, rfl⟩ : ∃ a, parts = [a] := by
                cases parts with
                | nil => simp at hl
                | cons a r => cases r with
                  | nil => exact ⟨a, rfl⟩
                  | cons b r => simp at hl; omega
              rw [(last_two a _).1, (last_two a _).2] at hh
              exact hgt ⟨rfl, rfl, hh⟩
            · rw [if_neg hr, if_neg (by rintro ⟨h, _⟩; exact hr h)]
          · rw [if_neg h41]
            by_cases h44 : atV s q = 44
            · rw [if_neg (by rw [h44]; simp), if_pos (decide_eq_true h44)]
              exact ih _ _ (by intro k' n' l' e; cases e; exact ⟨h5, h11⟩)
            · rw [if_pos h44, if_neg (show ¬ (decide (atV s q = 44) = true) by rw [decide_eq_false h44]; decide), if_neg (show ¬ (decide (atV s q = 41) = true) by rw [decide_eq_false h41]; decide)]
/-- What the reference reads as a term as a whole. -/
theorem rt_parse (s : ByteArray) (f : Nat) : (match rt s f none 0 with | none => none | some (nd, q) => if q = s.size then some nd else none) = (match rd s f none 0 with | none => (none : Option Nd) | some (nd, q) => if q = s.size then some nd else none) := by
  have h := good_rt s f none 0 (by intro _ _ _ e; cases e)
  have key : ∀ x : Option (Nd × Nat), (match x with | none => (none : Option Nd) | some (nd, q) => if q = s.size then some nd else none) = (match good s x with | none => none | some (nd, q) => if q = s.size then some nd else none) := by
    intro x
    cases x with
    | none => rfl
    | some y =>
      obtain ⟨nd, q⟩ := y
      unfold good
      simp only
      by_cases hq : atV s q = 40
      · rw [if_pos hq]
        simp only
        rw [if_neg]
        intro e
        have := at_lt (s := s) (p := q) (by rw [hq]; decide)
        omega
      · rw [if_neg hq]
  refine (key _).trans (Eq.trans ?_ (key _).symm)
  rw [h]
end
section
open Go.RowKit Go.Deep

theorem kindV_pos {c : Int} (h : kindV c ≠ 0) : 1 ≤ kindV c := by
  unfold kindV at h ⊢
  repeat' split
  all_goals first
    | omega
    | (simp_all; done)
theorem end_kind {s : ByteArray} {k : Int} {n : Nat} {l : List ByteArray} {p q : Nat} {nd : Nd} (hk : 1 ≤ k) (h : rdEnd s k n l p = some (nd, q)) : 1 ≤ nd.1 := by
  unfold rdEnd at h
  by_cases h1 : peekV s p 41 = true
  · rw [if_pos h1] at h
    by_cases h2 : fitsV k l.length = true
    · rw [if_pos h2] at h
      obtain ⟨e, _⟩ := Prod.mk.inj (Option.some.inj h)
      subst e
      exact hk
    · rw [if_neg h2] at h; cases h
  · rw [if_neg h1] at h; cases h
theorem leaf_kind {k : Int} {n q q' : Nat} {b : List UInt8} {l : List ByteArray} {nd : Nd} (hk : 1 ≤ k) (h : some (((k, n, b, l) : Nd), q') = some (nd, q)) : 1 ≤ nd.1 := by
  obtain ⟨e, _⟩ := Prod.mk.inj (Option.some.inj h)
  subst e
  exact hk
theorem rd_kind (s : ByteArray) : ∀ (f : Nat) (m : Option (Int × Nat × List ByteArray)) (p : Nat) (nd : Nd) (q : Nat), (∀ x, m = some x → 1 ≤ x.1) → rd s f m p = some (nd, q) → 1 ≤ nd.1 := by
  intro f
  induction f with
  | zero => intro m p nd q _ h; cases m <;> (simp only [rd] at h; cases h)
  | succ f ih =>
    have ih2 : ∀ (k : Int) (n : Nat) (l : List ByteArray) (p : Nat) (nd : Nd) (q : Nat), 1 ≤ k → rd s f (some (k, n, l)) p = some (nd, q) → 1 ≤ nd.1 := fun k n l p nd q hk h => ih _ p nd q (fun x hx => by cases hx; exact hk) h
    intro m p nd q hm h
    cases m with
    | none =>
      rw [rd] at h
      repeat' (split at h)
      all_goals first
        | (cases h; done)
        | exact ih2 _ _ _ _ _ _ (kindV_pos (by assumption)) h
        | exact end_kind (kindV_pos (by assumption)) h
        | exact leaf_kind (kindV_pos (by assumption)) h
        | exact leaf_kind (k := 1) (by omega) h
        | exact leaf_kind (k := 4) (by omega) h
    | some x =>
      obtain ⟨k, n, parts⟩ := x
      have hk : 1 ≤ k := hm _ rfl
      rw [rd] at h
      repeat' (split at h)
      all_goals first
        | (cases h; done)
        | exact ih2 _ _ _ _ _ _ hk h
        | exact end_kind hk h
theorem kind_pos {s : ByteArray} {k : Int} {n : Nat} {b : List UInt8} {l : List ByteArray} (h : parseV s = some (k, n, b, l)) : 1 ≤ k := by
  unfold parseV at h
  split at h
  · cases h
  · split at h
    · cases h
    · rename_i nd q hr
      split at h
      · injection h with h
        have := rd_kind s _ none 0 nd q (by simp) hr
        rw [h] at this
        exact this
      · cases h
end
section
open Go.RowKit Go.Deep

theorem term_allR (s : ByteArray) : ∀ f, TRSaid s f := by
  intro f
  induction f using Nat.strongRecOn with
  | _ f ih =>
    cases f with
    | zero => intro w p _ _ h; omega
    | succ f =>
      intro w p hp hs hf
      have hT : ∀ f', f' ≤ f → TRSaid s f' := fun f' h => ih f' (by omega)
      by_cases h4 : kindV (atV s p : Nat) ≤ 4 ∨ atV s (p + 1) ≠ 40
      · exact term_short s f w p hp hs h4
      · have hk5 : 5 ≤ kindV (atV s p : Nat) := by
          apply Decidable.byContradiction
          intro h
          exact h4 (.inl (by omega))
        have h40 : atV s (p + 1) = 40 := by
          apply Decidable.byContradiction
          intro h
          exact h4 (.inr h)
        by_cases h8 : kindV (atV s p : Nat) = 8
        · exact term_long8 s f hT w p hp hs hf hk5 h8 h40
        by_cases h10 : kindV (atV s p : Nat) = 10
        · exact term_long10 s f hT w p hp hs hf hk5 h10 h40
        by_cases h6 : kindV (atV s p : Nat) = 6
        · exact term_long6 s f hT w p hp hs hf hk5 h6 h40
        by_cases h11 : kindV (atV s p : Nat) = 11
        · exact term_long11 s f hT w p hp hs hf hk5 h11 h40
        exact term_longg s f hT w p hp hs hf hk5 h8 h10 h6 h11 h40

/-- What the reference's Read hands back. -/
def ReadRPost (r : Option Nd) (w : World) (e : Ending) (w' : World) : Prop :=
  match r with
  | none => e = .returned nd0 ∧ Only [] w w'
  | some nd => ∃ bv pv, e = .returned (.agg #[.int .i64 nd.1, .int .u64 nd.2.1, bv, pv]) ∧ Only [] w w' ∧
      (∀ N : List Nat, (∀ x ∈ N, x < w.heap.size) → Rd w' N bv (ints .u8 (byts nd.2.2.1))) ∧ (∀ N : List Nat, (∀ x ∈ N, x < w.heap.size) → Rd w' N pv (strs nd.2.2.2))
theorem readR_no {r : Option Nd} {w w' : World} (h : r = none) (ho : Only [] w w') : ReadRPost r w (.returned (.agg #[.int .i64 0, .int .u64 0, .slice none 0 0, .slice none 0 0])) w' := by
  subst h; exact ⟨rfl, ho⟩
theorem readR_yes {r : Option Nd} {w w' : World} {k : Int} {n : Nat} {bs : List UInt8} {parts : List ByteArray} {bv pv : Value} (h : r = some (k, n, bs, parts)) (ho : Only [] w w')
    (hb : ∀ N : List Nat, (∀ x ∈ N, x < w.heap.size) → Rd w' N bv (ints .u8 (byts bs))) (hp : ∀ N : List Nat, (∀ x ∈ N, x < w.heap.size) → Rd w' N pv (strs parts)) :
    ReadRPost r w (.returned (.agg #[.int .i64 k, .int .u64 n, bv, pv])) w' := by
  subst h; exact ⟨_, _, rfl, ho, hb, hp⟩
theorem rd_four {_w w' : World} {B : Nat} {N : List Nat} {v a b c d : Value} {l : List Value} (h : ∀ N : List Nat, (∀ x ∈ N, x ≤ B) → Rd w' N v l) (hB : ∀ x ∈ N, x < B) :
    Rd ((((w'.setCell ⟨B, 0, none⟩ a).setCell ⟨B, 1, none⟩ b).setCell ⟨B, 2, none⟩ c).setCell ⟨B, 3, none⟩ d) N v l :=
  ((h (B :: N) (by intro x hx; rcases List.mem_cons.1 hx with rfl | hx; exact Nat.le_refl _; exact Nat.le_of_lt (hB x hx))).only (only_four0 (Only.refl [B] w') (.inl (by simp))) (fun x hx => by rw [List.mem_singleton.1 hx]; exact List.mem_cons_self)).less (fun x hx => List.mem_cons_of_mem _ hx)

set_option maxRecDepth 100000 in
set_option maxHeartbeats 3200000 in
theorem readR_any (w : World) (s : ByteArray) (hs : s.size ≤ 1000000) : Calls Tryz.prog 39 #[.string s] w (ReadRPost (parseV s) w) := by
  have HB := hide (Blk.new w 77 zeroN)
  have HO := hide ((Only.refl [] w).alloc (.cells zeroN 77))
  unfold zeroN at HB HO
  by_cases hlt : 65536 < s.size
  · have hltI : (65536 : Int) < s.size := by omega
    have HR := hide (show parseV s = none by unfold parseV; rw [if_pos hlt])
    clear hlt
    go_enter Tryz.func39, Tryz.ntmps39
    go_wp2_with fail
    refine bodyPost_ret (results_cell_row rfl _ _ w.heap.size 77 _ (0, 0) _ rfl HB.out Tryz.underlying77 rfl (by kernel_rfl)) rfl ?_
    exact readR_no HR.out HO.out
  · have hltI : ¬ (65536 : Int) < s.size := by omega
    have HT := hide (fun W => term_allR s (2 * s.size + 2) W 0 (Nat.zero_le _) hs (by omega))
    have HV := hide (show parseV s = match rt s (2 * s.size + 2) none 0 with | none => none | some (nd, q) => if q = s.size then some nd else none by
      refine Eq.trans ?_ (rt_parse s (2 * s.size + 2)).symm; unfold parseV; rw [if_neg hlt]; rfl)
    unfold NodePost at HT
    have hz : ((0 : Nat) : Int) = 0 := rfl
    rw [hz] at HT
    clear hz hlt
    have c0 := HB.out.cell 0
    have c1 := HB.out.cell 1
    have c2 := HB.out.cell 2
    have c3 := HB.out.cell 3
    simp at c0 c1 c2 c3
    have cf := HB.out.frozen
    cases hr : rt s (2 * s.size + 2) none 0 with
    | none =>
      have HR := hide (show parseV s = none by rw [HV.out, hr])
      rw [hr] at HT
      simp only at HT
      have hq : ((-1 : Int) != (s.size : Int)) = true := by rw [bne_iff_ne]; omega
      clear hr HV
      go_enter Tryz.func39, Tryz.ntmps39
      go_wp2_with (go_at_call 97; refine (HT.out _).mono ?_; rintro e w2 ⟨rfl, ho⟩; have HO := hide ((HO.out.trans ho).alloc (.cells #[.int .i64 0, .int .u64 0, .slice none 0 0, .slice none 0 0] 77)); have HB := hide ((HB.out.only ho (by simp)).alloc (.cells #[.int .i64 0, .int .u64 0, .slice none 0 0, .slice none 0 0] 77)); clear ho c0 c1 c2 c3 cf; have c0 := HB.out.cell 0; have c1 := HB.out.cell 1; have c2 := HB.out.cell 2; have c3 := HB.out.cell 3; simp at c0 c1 c2 c3; have cf := HB.out.frozen)
      refine bodyPost_ret (results_cell_row rfl _ _ w.heap.size 77 _ (0, 0) _ rfl ((((HB.out.set_ 0 _).set_ 1 _).set_ 2 _).set_ 3 _) Tryz.underlying77 rfl (by kernel_rfl)) rfl ?_
      exact readR_no HR.out (only_four0 HO.out (.inr (Nat.le_refl _)))
    | some r =>
      obtain ⟨⟨k, n, bs, parts⟩, q⟩ := r
      rw [hr] at HT
      simp only at HT
      by_cases hq : q = s.size
      · have HR := hide (show parseV s = some (k, n, bs, parts) by rw [HV.out, hr]; simp only; rw [if_pos hq])
        have hqb : ((q : Int) != (s.size : Int)) = false := by rw [bne_eq_false_iff_eq]; omega
        clear hr HV hq
        go_enter Tryz.func39, Tryz.ntmps39
        go_wp2_with (go_at_call 97; refine (HT.out _).mono ?_; rintro e w2 ⟨bv, pv, rfl, ho, hb, hp⟩; obtain ⟨A1, cap1, rfl, _, _⟩ := (hb [] (by simp)).formb; obtain ⟨A2, cap2, rfl, _, _⟩ := (hp [] (by simp)).form; have HRB := hide hb; have HRP := hide hp; have HSZ := hide ho.size; have HN := hide (Blk.new w2 77 #[.int .i64 k, .int .u64 n, .slice A1 bs.length cap1, .slice A2 (strs parts).length cap2]); have HO := hide ((HO.out.trans ho).alloc (.cells #[.int .i64 k, .int .u64 n, .slice A1 bs.length cap1, .slice A2 (strs parts).length cap2] 77)); have HB := hide ((HB.out.only ho (by simp)).alloc (.cells #[.int .i64 k, .int .u64 n, .slice A1 bs.length cap1, .slice A2 (strs parts).length cap2] 77)); clear ho c0 c1 c2 c3 cf hb hp; have c0 := HB.out.cell 0; have c1 := HB.out.cell 1; have c2 := HB.out.cell 2; have c3 := HB.out.cell 3; have d0 := HN.out.cell 0; have d1 := HN.out.cell 1; have d2 := HN.out.cell 2; have d3 := HN.out.cell 3; simp at c0 c1 c2 c3 d0 d1 d2 d3; have cf := HB.out.frozen)
        refine bodyPost_ret (results_cell_row rfl _ _ w.heap.size 77 _ (0, 0) _ rfl ((((HB.out.set_ 0 _).set_ 1 _).set_ 2 _).set_ 3 _) Tryz.underlying77 rfl (by kernel_rfl)) rfl ?_
        refine readR_yes HR.out (only_four0 HO.out (.inr (Nat.le_refl _))) (fun N hN => rd_four (_w := w) (fun N hN => (HRB.out N (fun x hx => by have := hN x hx; simp; omega)).only ((Only.refl [] _).alloc _) (by simp)) hN) (fun N hN => rd_four (_w := w) (fun N hN => (HRP.out N (fun x hx => by have := hN x hx; simp; omega)).only ((Only.refl [] _).alloc _) (by simp)) hN)
      · have HR := hide (show parseV s = none by rw [HV.out, hr]; simp only; rw [if_neg hq])
        have hqb : ((q : Int) != (s.size : Int)) = true := by rw [bne_iff_ne]; omega
        clear hr HV hq
        go_enter Tryz.func39, Tryz.ntmps39
        go_wp2_with (go_at_call 97; refine (HT.out _).mono ?_; rintro e w2 ⟨bv, pv, rfl, ho, hb, hp⟩; obtain ⟨A1, cap1, rfl, _, _⟩ := (hb [] (by simp)).formb; obtain ⟨A2, cap2, rfl, _, _⟩ := (hp [] (by simp)).form; have HO := hide ((HO.out.trans ho).alloc (.cells #[.int .i64 k, .int .u64 n, .slice A1 bs.length cap1, .slice A2 (strs parts).length cap2] 77)); have HB := hide ((HB.out.only ho (by simp)).alloc (.cells #[.int .i64 k, .int .u64 n, .slice A1 bs.length cap1, .slice A2 (strs parts).length cap2] 77)); clear ho c0 c1 c2 c3 cf hb hp; have c0 := HB.out.cell 0; have c1 := HB.out.cell 1; have c2 := HB.out.cell 2; have c3 := HB.out.cell 3; simp at c0 c1 c2 c3; have cf := HB.out.frozen)
        refine bodyPost_ret (results_cell_row rfl _ _ w.heap.size 77 _ (0, 0) _ rfl ((((HB.out.set_ 0 _).set_ 1 _).set_ 2 _).set_ 3 _) Tryz.underlying77 rfl (by kernel_rfl)) rfl ?_
        exact readR_no HR.out (only_four0 HO.out (.inr (Nat.le_refl _)))
end
section
open Go.RowKit Go.Deep

set_option maxRecDepth 100000 in
set_option maxHeartbeats 3200000 in
theorem readR_all (w : World) (s : ByteArray) (_hs : s.size ≤ maxLen) : Calls Tryz.prog 39 #[.string s] w (ReadRPost (parseV s) w) := by
  by_cases hlt : 65536 < s.size
  · have HB := hide (Blk.new w 77 zeroN)
    have HO := hide ((Only.refl [] w).alloc (.cells zeroN 77))
    unfold zeroN at HB HO
    have hltI : (65536 : Int) < s.size := by omega
    have HR := hide (show parseV s = none by unfold parseV; rw [if_pos hlt])
    unfold maxLen at _hs
    clear hlt
    go_enter Tryz.func39, Tryz.ntmps39
    go_wp2_with fail
    refine bodyPost_ret (results_cell_row rfl _ _ w.heap.size 77 _ (0, 0) _ rfl HB.out Tryz.underlying77 rfl (by kernel_rfl)) rfl ?_
    exact readR_no HR.out HO.out
  · exact readR_any w s (by omega)

set_option maxRecDepth 100000 in
set_option maxHeartbeats 1600000 in
theorem isR_all (w : World) (s : ByteArray) (hs : s.size ≤ maxLen) : Calls Tryz.prog 18 #[.string s] w (RetB (parseV s).isSome w) := by
  have HP := hide (readR_all w s hs)
  have HK := hide (fun k n b l (h : parseV s = some (k, n, b, l)) => kind_pos h)
  cases hr : parseV s with
  | none =>
    rw [hr] at HP
    unfold ReadRPost nd0 at HP
    simp only at HP
    have hf : ∀ W : World, (Instr.field 77 (.agg #[.int .i64 0, .int .u64 0, .slice none 0 0, .slice none 0 0]) 0).run Tryz.prog W = .ok (.int .i64 0) W := fun W => by kernel_rfl
    go_enter Tryz.func18, Tryz.ntmps18
    go_wp2_with (go_at_call 39; refine HP.out.mono ?_; rintro e w2 ⟨rfl, ho⟩; have HO := hide ho; clear ho)
    go_ret
    exact retb rfl HO.out
  | some nd =>
    obtain ⟨k, n, bs, parts⟩ := nd
    have hk := HK.out _ _ _ _ hr
    have hkb : (0 : Int) < k := by omega
    rw [hr] at HP
    unfold ReadRPost at HP
    simp only at HP
    have hf : ∀ (A1 A2 : Option Addr) (n1 c1 n2 c2 : Nat) (W : World), (Instr.field 77 (.agg #[.int .i64 k, .int .u64 (n : Nat), .slice A1 n1 c1, .slice A2 n2 c2]) 0).run Tryz.prog W = .ok (.int .i64 k) W := fun A1 A2 n1 c1 n2 c2 W => by kernel_rfl
    clear hk HK
    go_enter Tryz.func18, Tryz.ntmps18
    go_wp2_with (go_at_call 39; refine HP.out.mono ?_; rintro e w2 ⟨bv, pv, rfl, ho, hb, hp⟩; obtain ⟨A1, cap1, rfl, _, _⟩ := (hb [] (by simp)).formb; obtain ⟨A2, cap2, rfl, _, _⟩ := (hp [] (by simp)).form; have HO := hide ho; clear ho hb hp)
    go_ret
    exact retb rfl HO.out
end
end Go.Proofs.YtfipdjlalfpbnaaGreatDoor

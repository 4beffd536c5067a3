/-
  How many are missing: the count over the places of a window is the document's. Plain lists, no program in sight. No condition.
-/
import Derived.Test.YtokpdhcgclfmnaaRef07
namespace Go.Proofs.Ytokpdhcgclfmnaa

def cntM (top : Nat) (L : List Nat) (k : Nat) : Nat := ((List.range k).filter fun i => !decide (top - i ∈ L)).length
theorem cntM_succ (top : Nat) (L : List Nat) (k : Nat) : cntM top L (k + 1) = cntM top L k + if top - k ∈ L then 0 else 1 := by
  unfold cntM
  rw [List.range_succ, List.filter_append, List.length_append]
  by_cases h : top - k ∈ L
  · simp [h]
  · simp [h]
theorem cntM_le (top : Nat) (L : List Nat) (k : Nat) : cntM top L k ≤ k := by
  unfold cntM
  exact Nat.le_trans (List.length_filter_le _ _) (by simp)

theorem filter_one (a : Nat) : ∀ n, ((List.range n).filter fun i => decide (i = a)).length = if a < n then 1 else 0 := by
  intro n
  induction n with
  | zero => simp
  | succ n ih =>
    rw [List.range_succ, List.filter_append, List.length_append, ih]
    by_cases h : n = a
    · subst h
      simp
    · by_cases h1 : a < n
      · rw [if_pos h1, if_pos (by omega)]
        simp [h]
      · rw [if_neg h1, if_neg (by omega)]
        simp [h]

theorem filter_or (l : List Nat) (p q : Nat → Bool) (h : ∀ i ∈ l, p i = true → q i = false) : (l.filter fun i => p i || q i).length = (l.filter p).length + (l.filter q).length := by
  induction l with
  | nil => rfl
  | cons x l ih =>
    have ih' := ih (fun i hi => h i (List.mem_cons_of_mem _ hi))
    have hx := h x List.mem_cons_self
    cases hp : p x
    · cases hq : q x
      · simp [List.filter_cons, hp, hq, ih']
      · simp [List.filter_cons, hp, hq, ih']; omega
    · have hq := hx hp
      simp [List.filter_cons, hp, hq, ih']; omega

theorem filter_mem (top : Nat) : ∀ (L : List Nat), L.Nodup → (∀ x ∈ L, x ≤ top) → ∀ span, span = min 2048 (top + 1) → ((List.range span).filter fun i => decide (top - i ∈ L)).length = cntL top L := by
  intro L
  induction L with
  | nil => intro _ _ span _; simp [cntL]
  | cons x L ih =>
    intro hnd hle span hs
    rw [List.nodup_cons] at hnd
    have ih' := ih hnd.2 (fun y hy => hle y (List.mem_cons_of_mem _ hy)) span hs
    have hx := hle x List.mem_cons_self
    have e1 : ((List.range span).filter fun i => decide (top - i ∈ x :: L)) = (List.range span).filter fun i => decide (i = top - x) || decide (top - i ∈ L) := by
      apply List.filter_congr
      intro i hi
      have hi' := List.mem_range.1 hi
      rw [Bool.eq_iff_iff]
      simp only [decide_eq_true_eq, List.mem_cons, Bool.or_eq_true]
      constructor
      · rintro (h | h)
        · left; omega
        · right; exact h
      · rintro (h | h)
        · left; omega
        · right; exact h
    rw [e1, filter_or, filter_one, ih']
    · unfold cntL
      rw [List.filter_cons]
      by_cases h : top - x < 2048
      · rw [if_pos (by omega), if_pos (by simpa using h)]
        simp; omega
      · rw [if_neg (by omega), if_neg (by simpa using h)]
        simp
    · intro i hi hp
      have hi' := List.mem_range.1 hi
      rw [decide_eq_true_eq] at hp
      rw [decide_eq_false_iff_not]
      intro hm
      have : top - i = x := by omega
      exact hnd.1 (this ▸ hm)

theorem miss_eq (L : List Nat) (hL : L ≠ []) (hnd : L.Nodup) (k : Nat) (hk : k = min 2048 (maxL L + 1)) : (cntM (maxL L) L k : Int) = missL L := by
  have h1 := filter_mem (maxL L) L hnd (le_maxL L) k hk
  have h2 : ∀ n, cntM (maxL L) L n + ((List.range n).filter fun i => decide (maxL L - i ∈ L)).length = n := by
    intro n
    unfold cntM
    induction n with
    | zero => rfl
    | succ n ih =>
      rw [List.range_succ, List.filter_append, List.filter_append, List.length_append, List.length_append]
      by_cases h : maxL L - n ∈ L
      · simp [h]; omega
      · simp [h]; omega
  have h3 := h2 k
  rw [h1] at h3
  unfold missL
  rw [if_neg hL]
  split <;> omega
end Go.Proofs.Ytokpdhcgclfmnaa

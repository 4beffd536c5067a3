/-
  The changes second by second, and turned: plain mathematics on lists.
-/
import Derived.Test.YtkihjgcjapkgpaaSkyG
namespace Go.Proofs.Ytkihjgcjapkgpaa

/-- The changes ahead of second t; the mast ahead of it. -/
def preV (m : List (Int × Int)) (s : Int × Int) (l : List Lg) : Nat → List (Int × Int)
  | 0 => []
  | t + 1 => chs m s l t
def lastV (m : List (Int × Int)) (s : Int × Int) (l : List Lg) : Nat → Int
  | 0 => -1
  | t + 1 => ((nearV m (atV s l t) : Nat) : Int)
theorem pre_same {m : List (Int × Int)} {s : Int × Int} {l : List Lg} {t : Nat} (h : ((nearV m (atV s l t) : Nat) : Int) = lastV m s l t) : preV m s l (t + 1) = preV m s l t := by
  cases t with
  | zero => exact absurd h (by rw [show lastV m s l 0 = -1 from rfl]; omega)
  | succ t => exact chs_same (by have h' : ((nearV m (atV s l (t + 1)) : Nat) : Int) = ((nearV m (atV s l t) : Nat) : Int) := h; omega)
theorem pre_new {m : List (Int × Int)} {s : Int × Int} {l : List Lg} {t : Nat} (h : ¬ ((nearV m (atV s l t) : Nat) : Int) = lastV m s l t) : preV m s l (t + 1) = preV m s l t ++ [((t : Int), ((nearV m (atV s l t) : Nat) : Int))] := by
  cases t with
  | zero => rfl
  | succ t => exact chs_new (by have h' : ¬ ((nearV m (atV s l (t + 1)) : Nat) : Int) = ((nearV m (atV s l t) : Nat) : Int) := h; omega)
theorem pre_step (m : List (Int × Int)) (s : Int × Int) (l : List Lg) (t : Nat) : ∃ r, preV m s l (t + 1) = preV m s l t ++ r := by
  by_cases h : ((nearV m (atV s l t) : Nat) : Int) = lastV m s l t
  · exact ⟨[], by rw [pre_same h, List.append_nil]⟩
  · exact ⟨_, pre_new h⟩
theorem pre_le (m : List (Int × Int)) (s : Int × Int) (l : List Lg) (t : Nat) : ∀ d, ∃ r, preV m s l (t + d) = preV m s l t ++ r
  | 0 => ⟨[], by rw [List.append_nil]; rfl⟩
  | d + 1 => by
    obtain ⟨r, hr⟩ := pre_le m s l t d
    obtain ⟨q, hq⟩ := pre_step m s l (t + d)
    exact ⟨r ++ q, by rw [show t + (d + 1) = t + d + 1 by omega, hq, hr, List.append_assoc]⟩
/-- A change at second t stands at its place in all changes. -/
theorem pre_at {m : List (Int × Int)} {s : Int × Int} {l : List Lg} {t u : Nat} (hu : t ≤ u) (h : ¬ ((nearV m (atV s l t) : Nat) : Int) = lastV m s l t) :
    (preV m s l t).length < (chs m s l u).length ∧ (chs m s l u).getD (preV m s l t).length (0, 0) = ((t : Int), ((nearV m (atV s l t) : Nat) : Int)) := by
  obtain ⟨r, hr⟩ := pre_le m s l (t + 1) (u - t)
  rw [show t + 1 + (u - t) = u + 1 by omega, pre_new h, List.append_assoc] at hr
  have hr' : chs m s l u = preV m s l t ++ ([((t : Int), ((nearV m (atV s l t) : Nat) : Int))] ++ r) := hr
  rw [hr']
  constructor
  · simp
  · rw [List.getD_eq_getElem?_getD, List.getElem?_append_right (Nat.le_refl _), Nat.sub_self]
    rfl
theorem pre_len (m : List (Int × Int)) (s : Int × Int) (l : List Lg) (t : Nat) : (preV m s l t).length ≤ t := by
  cases t with
  | zero => exact Nat.le_refl _
  | succ t => exact chs_len m s l t

theorem chs_late {m : List (Int × Int)} {s : Int × Int} {l : List Lg} (hpos : ∀ i, i < l.length → 0 ≤ (l.getD i zg).2.2) : ∀ d, chs m s l (tot l l.length + d) = chs m s l (tot l l.length)
  | 0 => rfl
  | d + 1 => by
    show chs m s l (tot l l.length + d + 1) = _
    rw [chs_same (by rw [atV_end s l hpos (by omega), atV_end s l hpos (by omega)])]
    exact chs_late hpos d
theorem chs_min {m : List (Int × Int)} {s : Int × Int} {l : List Lg} (hpos : ∀ i, i < l.length → 0 ≤ (l.getD i zg).2.2) (u : Nat) : chs m s l (min u (tot l l.length)) = chs m s l u := by
  rcases Nat.lt_or_ge u (tot l l.length) with h | h
  · rw [Nat.min_eq_left (by omega)]
  · rw [Nat.min_eq_right h]
    have := chs_late (m := m) (s := s) hpos (u - tot l l.length)
    rw [← this, show tot l l.length + (u - tot l l.length) = u by omega]

def turnM (q : Int) (m : List (Int × Int)) : List (Int × Int) := m.map fun p => turnV p q
theorem turnM_len (q : Int) (m : List (Int × Int)) : (turnM q m).length = m.length := by simp [turnM]
theorem far_turn1 (a b : Int × Int) : farV (turn1 a) (turn1 b) = farV a b := by
  unfold farV turn1
  simp only
  rw [← Int.neg_mul_neg (-a.2 - -b.2), show -(-a.2 - -b.2) = a.2 - b.2 by omega, Int.add_comm]
theorem far_turnN (a b : Int × Int) : ∀ k, farV (turnN a k) (turnN b k) = farV a b
  | 0 => rfl
  | k + 1 => by
    show farV (turn1 (turnN a k)) (turn1 (turnN b k)) = _
    rw [far_turn1, far_turnN a b k]
theorem far_turn (a b : Int × Int) (q : Int) : farV (turnV a q) (turnV b q) = farV a b := far_turnN a b _
theorem getD_turnM (q : Int) (m : List (Int × Int)) {k : Nat} (hk : k < m.length) : (turnM q m).getD k (0, 0) = turnV (m.getD k (0, 0)) q := by
  unfold turnM
  rw [List.getD_eq_getElem?_getD, List.getElem?_map, get_lt m (0, 0) hk]
  rfl
theorem nb_turn (q : Int) (m : List (Int × Int)) (p : Int × Int) : ∀ k, k ≤ m.length → nb (turnM q m) (turnV p q) k = nb m p k
  | 0, _ => rfl
  | k + 1, hk => by
    have ih := nb_turn q m p k (by omega)
    have hb : nb m p k < m.length := by
      cases k with
      | zero => exact hk
      | succ k => have := nb_lt m p (k + 1) (by omega); omega
    unfold nb
    rw [ih, getD_turnM q m (show k < m.length by omega), getD_turnM q m hb, far_turn, far_turn]
theorem near_turn (q : Int) (m : List (Int × Int)) (p : Int × Int) : nearV (turnM q m) (turnV p q) = nearV m p := by
  unfold nearV
  rw [turnM_len]
  exact nb_turn q m p _ (Nat.le_refl _)
theorem chs_turn (q : Int) (m : List (Int × Int)) (s : Int × Int) (l : List Lg) : ∀ T, chs (turnM q m) (turnV s q) (turnL q l) T = chs m s l T
  | 0 => by
    unfold chs
    rw [at_turn, near_turn]
  | T + 1 => by
    unfold chs
    rw [at_turn, near_turn, at_turn, near_turn, chs_turn q m s l T]
theorem masts_turn {m : List (Int × Int)} (q : Int) (h : mastsV m = true) : mastsV (turnM q m) = true := by
  obtain ⟨h1, h2, h3⟩ := masts_mem h
  unfold mastsV
  rw [turnM_len, decide_eq_true ⟨h2, h3⟩, Bool.true_and, List.all_eq_true]
  intro x hx
  obtain ⟨p, hp, rfl⟩ := List.mem_map.mp hx
  exact okP_turnN (h1 p hp) _
theorem masts_fit {m : List (Int × Int)} (h : mastsV m = true) : ∀ p ∈ m, Fit p := fun p hp => by
  have := okP_bd ((masts_mem h).1 p hp)
  unfold Fit
  omega
theorem turnM_take (q : Int) (m : List (Int × Int)) {k : Nat} (hk : k < m.length) : turnM q (m.take (k + 1)) = turnM q (m.take k) ++ [turnV (m.getD k (0, 0)) q] := by
  unfold turnM
  rw [List.take_add_one, get_lt m (0, 0) hk, List.map_append]
  rfl
/-- All of it: what the law compares. -/
theorem chs_turned (q : Int) (m : List (Int × Int)) (s : Int × Int) (l : List Lg) (u : Nat) : chs (turnM q m) (turnV s q) (turnL q l) (min u (tot (turnL q l) (turnL q l).length)) = chs m s l (min u (tot l l.length)) := by
  rw [chs_turn, turnL_len, tot_turn q l _ (Nat.le_refl _)]
end Go.Proofs.Ytkihjgcjapkgpaa

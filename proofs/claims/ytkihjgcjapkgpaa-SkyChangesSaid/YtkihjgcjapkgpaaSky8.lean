/-
  Where one is at a second; the changes of the nearest mast: plain mathematics on lists.
-/
import Derived.Test.YtkihjgcjapkgpaaSky7
namespace Go.Proofs.Ytkihjgcjapkgpaa

/-- The seconds of the first k legs. -/
def tot (l : List Lg) : Nat → Nat
  | 0 => 0
  | k + 1 => tot l k + (l.getD k zg).2.2.toNat
def atK (s : Int × Int) (l : List Lg) (T : Nat) : Nat → Int × Int
  | 0 => s
  | k + 1 => ((atK s l T k).1 + (l.getD k zg).1 * (min (T - tot l k) (l.getD k zg).2.2.toNat : Nat), (atK s l T k).2 + (l.getD k zg).2.1 * (min (T - tot l k) (l.getD k zg).2.2.toNat : Nat))
/-- Where one is at a second. -/
def atV (s : Int × Int) (l : List Lg) (T : Nat) : Int × Int := atK s l T l.length

theorem tot_mono (l : List Lg) : ∀ {i k : Nat}, i ≤ k → tot l i ≤ tot l k
  | i, 0, h => by rw [show i = 0 by omega]; exact Nat.le_refl _
  | i, k + 1, h => by
    rcases Nat.lt_or_ge i (k + 1) with h1 | h1
    · have := tot_mono l (show i ≤ k by omega)
      show tot l i ≤ tot l k + _
      omega
    · rw [show i = k + 1 by omega]; exact Nat.le_refl _

theorem atK_pos (s : Int × Int) (l : List Lg) (T : Nat) (hpos : ∀ i, i < l.length → 0 ≤ (l.getD i zg).2.2) : ∀ k, k ≤ l.length → tot l k ≤ T → atK s l T k = pos s l k
  | 0, _, _ => rfl
  | k + 1, hk, h => by
    have h' : tot l k + (l.getD k zg).2.2.toNat ≤ T := h
    have ih := atK_pos s l T hpos k (by omega) (by omega)
    unfold atK pos
    rw [ih, Nat.min_eq_right (by omega), Int.toNat_of_nonneg (hpos k (by omega))]
theorem atK_rest (s : Int × Int) (l : List Lg) (T k : Nat) (hT : T ≤ tot l k) : ∀ m, k ≤ m → atK s l T m = atK s l T k
  | 0, h => by rw [show k = 0 by omega]
  | m + 1, h => by
    rcases Nat.lt_or_ge k (m + 1) with h1 | h1
    · have ih := atK_rest s l T k hT m (by omega)
      have := tot_mono l (show k ≤ m by omega)
      show ((atK s l T m).1 + (l.getD m zg).1 * (min (T - tot l m) (l.getD m zg).2.2.toNat : Nat), (atK s l T m).2 + (l.getD m zg).2.1 * (min (T - tot l m) (l.getD m zg).2.2.toNat : Nat)) = _
      rw [ih, show T - tot l m = 0 by omega, Nat.zero_min]
      simp
    · rw [show k = m + 1 by omega]
/-- Inside a leg. -/
theorem atV_in (s : Int × Int) (l : List Lg) (hpos : ∀ i, i < l.length → 0 ≤ (l.getD i zg).2.2) {k j : Nat} (hk : k < l.length) (hj : (j : Int) ≤ (l.getD k zg).2.2) :
    atV s l (tot l k + j) = ((pos s l k).1 + (l.getD k zg).1 * j, (pos s l k).2 + (l.getD k zg).2.1 * j) := by
  unfold atV
  rw [atK_rest s l _ (k + 1) (by show tot l k + j ≤ tot l k + _; omega) l.length (by omega)]
  unfold atK
  rw [atK_pos s l _ hpos k (by omega) (by omega), show tot l k + j - tot l k = j by omega, Nat.min_eq_left (by omega)]
theorem atV_tot (s : Int × Int) (l : List Lg) (hpos : ∀ i, i < l.length → 0 ≤ (l.getD i zg).2.2) {k : Nat} (hk : k ≤ l.length) : atV s l (tot l k) = pos s l k := by
  unfold atV
  rw [atK_rest s l _ k (Nat.le_refl _) l.length hk, atK_pos s l _ hpos k hk (Nat.le_refl _)]
theorem atV_zero (s : Int × Int) (l : List Lg) (hpos : ∀ i, i < l.length → 0 ≤ (l.getD i zg).2.2) : atV s l 0 = s := atV_tot s l hpos (k := 0) (by omega)
theorem atV_end (s : Int × Int) (l : List Lg) (hpos : ∀ i, i < l.length → 0 ≤ (l.getD i zg).2.2) {T : Nat} (hT : tot l l.length ≤ T) : atV s l T = pos s l l.length := atK_pos s l T hpos _ (Nat.le_refl _) hT

/-- The changes up to second T. -/
def chs (m : List (Int × Int)) (s : Int × Int) (l : List Lg) : Nat → List (Int × Int)
  | 0 => [((0 : Int), ((nearV m (atV s l 0) : Nat) : Int))]
  | T + 1 => if nearV m (atV s l (T + 1)) = nearV m (atV s l T) then chs m s l T else chs m s l T ++ [(((T + 1 : Nat) : Int), ((nearV m (atV s l (T + 1)) : Nat) : Int))]
theorem chs_len (m : List (Int × Int)) (s : Int × Int) (l : List Lg) : ∀ T, (chs m s l T).length ≤ T + 1
  | 0 => by simp [chs]
  | T + 1 => by
    have := chs_len m s l T
    unfold chs
    split
    · omega
    · rw [List.length_append, List.length_singleton]; omega
theorem chs_same {m : List (Int × Int)} {s : Int × Int} {l : List Lg} {T : Nat} (h : nearV m (atV s l (T + 1)) = nearV m (atV s l T)) : chs m s l (T + 1) = chs m s l T := if_pos h
theorem chs_new {m : List (Int × Int)} {s : Int × Int} {l : List Lg} {T : Nat} (h : nearV m (atV s l (T + 1)) ≠ nearV m (atV s l T)) : chs m s l (T + 1) = chs m s l T ++ [(((T + 1 : Nat) : Int), ((nearV m (atV s l (T + 1)) : Nat) : Int))] := if_neg h

theorem between {p x j s B : Int} (h0 : 0 ≤ j) (h1 : j ≤ s) (a1 : -B ≤ p) (a2 : p ≤ B) (b1 : -B ≤ p + x * s) (b2 : p + x * s ≤ B) : -B ≤ p + x * j ∧ p + x * j ≤ B := by
  rcases Int.lt_or_le x 0 with h | h
  · have c1 : x * s ≤ x * j := Int.mul_le_mul_of_nonpos_left (by omega) h1
    have c2 : x * j ≤ 0 := Int.mul_nonpos_of_nonpos_of_nonneg (by omega) h0
    omega
  · have c1 : x * j ≤ x * s := Int.mul_le_mul_of_nonneg_left h1 h
    have c2 : 0 ≤ x * j := Int.mul_nonneg h h0
    omega
theorem okP_between {p : Int × Int} {x y j s : Int} (h0 : 0 ≤ j) (h1 : j ≤ s) (hp : okP p = true) (hq : okP (p.1 + x * s, p.2 + y * s) = true) : okP (p.1 + x * j, p.2 + y * j) = true := by
  have a := okP_bd hp
  have b := okP_bd hq
  simp only at b
  have c1 := between (B := 16777216) (x := x) h0 h1 a.1.1 a.1.2 b.1.1 b.1.2
  have c2 := between (B := 16777216) (x := y) h0 h1 a.2.1 a.2.2 b.2.1 b.2.2
  exact decide_eq_true ⟨c1.1, c1.2, c2.1, c2.2⟩
/-- What is right of a right route. -/
theorem routes_pos {s : Int × Int} {l : List Lg} (h : routesV s l = true) : (∀ k, k < l.length → legOk (l.getD k zg) = true) ∧ (∀ k, k ≤ l.length → okP (pos s l k) = true) ∧ (∀ i, i < l.length → 0 ≤ (l.getD i zg).2.2) := by
  obtain ⟨h1, h2, h3⟩ := routes_lok h
  have h4 : ∀ k, k < l.length → legOk (l.getD k zg) = true ∧ okP (pos s l (k + 1)) = true := fun k hk => by
    have := h3 k hk
    unfold lok at this
    rwa [Bool.and_eq_true] at this
  refine ⟨fun k hk => (h4 k hk).1, fun k hk => ?_, fun i hi => by have := legOk_bd (h4 i hi).1; omega⟩
  cases k with
  | zero => exact h1
  | succ k => exact (h4 k (by omega)).2
theorem routes_at {s : Int × Int} {l : List Lg} (h : routesV s l = true) : ∀ T, okP (atV s l T) = true := by
  obtain ⟨h1, h2, h3⟩ := routes_pos h
  intro T
  rcases Nat.lt_or_ge T (tot l l.length) with hT | hT
  · have key : ∀ n, n ≤ l.length → T < tot l n → ∃ k j : Nat, k < l.length ∧ (j : Int) ≤ (l.getD k zg).2.2 ∧ T = tot l k + j := by
      intro n
      induction n with
      | zero => intro _ h; exact absurd h (Nat.not_lt_zero _)
      | succ n ih =>
        intro hn hTn
        rcases Nat.lt_or_ge T (tot l n) with h | h
        · exact ih (by omega) h
        · have h5 : T < tot l n + (l.getD n zg).2.2.toNat := hTn
          have := h3 n (by omega)
          exact ⟨n, T - tot l n, by omega, by omega, by omega⟩
    obtain ⟨k, j, hk, hj, rfl⟩ := key _ (Nat.le_refl _) hT
    rw [atV_in s l h3 hk hj]
    have h6 := h2 (k + 1) (by omega)
    unfold pos at h6
    exact okP_between (by omega) hj (h2 k (by omega)) h6
  · rw [atV_end s l h3 hT]
    exact h2 _ (Nat.le_refl _)
end Go.Proofs.Ytkihjgcjapkgpaa

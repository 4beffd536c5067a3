/-
  A turned route is right, and is where the route is, turned: plain mathematics.
-/
import Derived.Test.YtkihjgcjapkgpaaSkyE
namespace Go.Proofs.Ytkihjgcjapkgpaa

theorem turnN_add (p d : Int × Int) (n : Int) : ∀ k, turnN (p.1 + d.1 * n, p.2 + d.2 * n) k = ((turnN p k).1 + (turnN d k).1 * n, (turnN p k).2 + (turnN d k).2 * n)
  | 0 => rfl
  | k + 1 => by
    show turn1 (turnN _ k) = _
    rw [turnN_add p d n k]
    unfold turn1
    simp only [turnN, turn1]
    rw [Int.neg_add, Int.neg_mul]
theorem turnV_add (p d : Int × Int) (n q : Int) : turnV (p.1 + d.1 * n, p.2 + d.2 * n) q = ((turnV p q).1 + (turnV d q).1 * n, (turnV p q).2 + (turnV d q).2 * n) := turnN_add p d n _
theorem getD_turn (q : Int) (l : List Lg) {k : Nat} (hk : k < l.length) : (turnL q l).getD k zg = turnG q (l.getD k zg) := by
  unfold turnL
  rw [List.getD_eq_getElem?_getD, List.getElem?_map, get_lt l zg hk]
  rfl
theorem turnL_len (q : Int) (l : List Lg) : (turnL q l).length = l.length := by simp [turnL]
theorem tot_turn (q : Int) (l : List Lg) : ∀ k, k ≤ l.length → tot (turnL q l) k = tot l k
  | 0, _ => rfl
  | k + 1, hk => by
    show tot (turnL q l) k + ((turnL q l).getD k zg).2.2.toNat = _
    rw [tot_turn q l k (by omega), getD_turn q l (by omega)]
    rfl
theorem pos_turn (s : Int × Int) (q : Int) (l : List Lg) : ∀ k, k ≤ l.length → pos (turnV s q) (turnL q l) k = turnV (pos s l k) q
  | 0, _ => rfl
  | k + 1, hk => by
    have h := turnV_add (pos s l k) ((l.getD k zg).1, (l.getD k zg).2.1) (l.getD k zg).2.2 q
    simp only at h
    show ((pos (turnV s q) (turnL q l) k).1 + ((turnL q l).getD k zg).1 * ((turnL q l).getD k zg).2.2, (pos (turnV s q) (turnL q l) k).2 + ((turnL q l).getD k zg).2.1 * ((turnL q l).getD k zg).2.2) = turnV ((pos s l k).1 + (l.getD k zg).1 * (l.getD k zg).2.2, (pos s l k).2 + (l.getD k zg).2.1 * (l.getD k zg).2.2) q
    rw [pos_turn s q l k (by omega), getD_turn q l (by omega), h]
    rfl
theorem atK_turn (s : Int × Int) (q : Int) (l : List Lg) (T : Nat) : ∀ k, k ≤ l.length → atK (turnV s q) (turnL q l) T k = turnV (atK s l T k) q
  | 0, _ => rfl
  | k + 1, hk => by
    have h := turnV_add (atK s l T k) ((l.getD k zg).1, (l.getD k zg).2.1) (min (T - tot l k) (l.getD k zg).2.2.toNat : Nat) q
    simp only at h
    show ((atK (turnV s q) (turnL q l) T k).1 + ((turnL q l).getD k zg).1 * (min (T - tot (turnL q l) k) ((turnL q l).getD k zg).2.2.toNat : Nat), (atK (turnV s q) (turnL q l) T k).2 + ((turnL q l).getD k zg).2.1 * (min (T - tot (turnL q l) k) ((turnL q l).getD k zg).2.2.toNat : Nat)) = turnV ((atK s l T k).1 + (l.getD k zg).1 * (min (T - tot l k) (l.getD k zg).2.2.toNat : Nat), (atK s l T k).2 + (l.getD k zg).2.1 * (min (T - tot l k) (l.getD k zg).2.2.toNat : Nat)) q
    rw [atK_turn s q l T k (by omega), getD_turn q l (by omega), tot_turn q l k (by omega), h]
    rfl
theorem at_turn (s : Int × Int) (q : Int) (l : List Lg) (T : Nat) : atV (turnV s q) (turnL q l) T = turnV (atV s l T) q := by
  unfold atV
  rw [turnL_len]
  exact atK_turn s q l T _ (Nat.le_refl _)
theorem legOk_turn {g : Lg} (q : Int) (h : legOk g = true) : legOk (turnG q g) = true := by
  obtain ⟨h1, h2, h3⟩ := legOk_bd h
  have hb := turn_bd (x := g.1) (y := g.2.1) (q := q) (B := 1000) h1 h2
  unfold legOk turnG
  simp only
  rw [decide_eq_true hb.1, decide_eq_true hb.2, decide_eq_true h3]
  rfl
theorem routes_turn {s : Int × Int} {l : List Lg} (q : Int) (h : routesV s l = true) : routesV (turnV s q) (turnL q l) = true := by
  obtain ⟨h1, h2, h3⟩ := routes_pos h
  have hl := (routes_lok h).2.1
  refine routes_true (okP_turnN (h2 0 (Nat.zero_le _)) _) (by rw [turnL_len]; exact hl) (fun k hk => ?_)
  rw [turnL_len] at hk
  unfold lok
  rw [getD_turn q l hk, legOk_turn q (h1 k hk), pos_turn s q l (k + 1) hk]
  exact okP_turnN (h2 (k + 1) hk) _
theorem fit_turn {s : Int × Int} {l : List Lg} (q : Int) (h : routesV s l = true) : Fit (turnV s q) ∧ ∀ g ∈ turnL q l, Fit3 g := by
  obtain ⟨h1, h2, h3⟩ := routes_pos (routes_turn q h)
  have h0 := okP_bd (h2 0 (Nat.zero_le _))
  have h0' : (-16777216 ≤ (turnV s q).1 ∧ (turnV s q).1 ≤ 16777216) ∧ (-16777216 ≤ (turnV s q).2 ∧ (turnV s q).2 ≤ 16777216) := h0
  refine ⟨⟨by omega, by omega⟩, fun g hg => ?_⟩
  obtain ⟨k, hk, rfl⟩ := List.getElem_of_mem hg
  have := legOk_bd (h1 k hk)
  rw [List.getD_eq_getElem?_getD, List.getElem?_eq_getElem hk] at this
  unfold Fit3
  simp only [Option.getD_some] at this
  omega
end Go.Proofs.Ytkihjgcjapkgpaa

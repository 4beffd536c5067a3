/-
  Walks and plain words (texts RoQ). No condition beyond those that each theorem states.
-/
import Derived.Test.YteoifokmbkpbnaaQ10
namespace Go.Proofs.Yteoifokmbkpbnaa
section
open Go.RowKit Go.Deep

theorem pre_rest (m : List (Int × Int)) (s : Int × Int) (l : List Lg) (t : Nat) : ∀ d, ∃ r, preV m s l (t + d) = preV m s l t ++ r ∧ ∀ x ∈ r, (t : Int) ≤ x.1
  | 0 => ⟨[], by rw [List.append_nil]; rfl, by simp⟩
  | d + 1 => by
    obtain ⟨r, hr, hx⟩ := pre_rest m s l t d
    by_cases h : ((nearV m (atV s l (t + d)) : Nat) : Int) = lastV m s l (t + d)
    · exact ⟨r, by rw [show t + (d + 1) = t + d + 1 by omega, pre_same h, hr], hx⟩
    · refine ⟨r ++ [(((t + d : Nat) : Int), ((nearV m (atV s l (t + d)) : Nat) : Int))], by rw [show t + (d + 1) = t + d + 1 by omega, pre_new h, hr, List.append_assoc], fun x hx' => ?_⟩
      rcases List.mem_append.1 hx' with h1 | h1
      · exact hx x h1
      · obtain rfl : x = _ := by simpa using h1
        show (t : Int) ≤ ((t + d : Nat) : Int)
        omega
/-- What is left of host k's changes ahead of second t. -/
def leftQ (m : List (Int × Int)) (rs : List Rt) (U t k : Nat) : List (Int × Int) := (chs m (rs.getD k zr).1 (rs.getD k zr).2.2 U).drop (preV m (rs.getD k zr).1 (rs.getD k zr).2.2 t).length
theorem left_start (m : List (Int × Int)) (rs : List Rt) (U k : Nat) : leftQ m rs U 0 k = chs m (rs.getD k zr).1 (rs.getD k zr).2.2 U := rfl
theorem left_yes {m : List (Int × Int)} {rs : List Rt} {U t k : Nat} (ht : t ≤ U) (h : chgB m rs t k = true) : leftQ m rs U t k = ((t : Int), ((nearAt m rs k t : Nat) : Int)) :: leftQ m rs U (t + 1) k := by
  have hc := of_decide_eq_true h
  obtain ⟨r, hr, _⟩ := pre_rest m (rs.getD k zr).1 (rs.getD k zr).2.2 (t + 1) (U - t)
  rw [show t + 1 + (U - t) = U + 1 by omega] at hr
  have hr' : chs m (rs.getD k zr).1 (rs.getD k zr).2.2 U = preV m (rs.getD k zr).1 (rs.getD k zr).2.2 (t + 1) ++ r := hr
  unfold leftQ
  rw [hr', List.drop_left, pre_new hc, List.append_assoc, List.drop_left]
  rfl
theorem left_no {m : List (Int × Int)} {rs : List Rt} {U t k : Nat} (ht : t ≤ U) (h : chgB m rs t k = false) : leftQ m rs U (t + 1) k = leftQ m rs U t k ∧ ∀ x ∈ leftQ m rs U t k, (t : Int) < x.1 := by
  have hc : ((nearAt m rs k t : Nat) : Int) = lastV m (rs.getD k zr).1 (rs.getD k zr).2.2 t := by
    have := of_decide_eq_false h
    exact Classical.not_not.1 this
  have hs := pre_same hc
  obtain ⟨r, hr, hx⟩ := pre_rest m (rs.getD k zr).1 (rs.getD k zr).2.2 (t + 1) (U - t)
  rw [show t + 1 + (U - t) = U + 1 by omega] at hr
  have hr' : chs m (rs.getD k zr).1 (rs.getD k zr).2.2 U = preV m (rs.getD k zr).1 (rs.getD k zr).2.2 (t + 1) ++ r := hr
  unfold leftQ
  rw [hs]
  refine ⟨rfl, fun x hx' => ?_⟩
  rw [hr', hs, List.drop_left] at hx'
  have := hx x hx'
  omega
theorem left_len (m : List (Int × Int)) (rs : List Rt) (U t k : Nat) : (leftQ m rs U t k).length ≤ U + 1 := by
  unfold leftQ
  have := pre_len m (rs.getD k zr).1 (rs.getD k zr).2.2 (U + 1)
  have h : (chs m (rs.getD k zr).1 (rs.getD k zr).2.2 U).length ≤ U + 1 := this
  rw [List.length_drop]
  omega
theorem set_mid {α : Type} {vs : List α} {k n : Nat} {z v : α} (hk : vs.length = k) (hlt : k < n) : (vs ++ List.replicate (n - k) z).toArray.setIfInBounds k v = ((vs ++ [v]) ++ List.replicate (n - (k + 1)) z).toArray := by
  subst hk
  rw [List.setIfInBounds_toArray, List.set_append_right _ _ (Nat.le_refl _), Nat.sub_self, show n - vs.length = (n - (vs.length + 1)) + 1 by omega, List.replicate_succ, List.set_cons_zero, List.append_assoc]
  rfl
theorem rds_tail {α : Type} {k : Nat} {F : α → List Value} {w : World} {N : List Nat} {g o n c : Nat} {x : α} {l : List α} (h : RdS k F w N (.slice (some ⟨g, o, none⟩) n c) (x :: l)) {A : Option Addr} {n' c' : Nat} (hA : l ≠ [] → A = some ⟨g, o + k, none⟩) (hn : n' = n - 1) (hc' : c' = c - 1) : RdS k F w N (.slice A n' c') l := by
  subst hn hc'
  obtain ⟨A0, cap, hv, hc, hm, h⟩ := h
  injection hv with e1 e2 e3
  subst e2 e3
  refine ⟨A, c - 1, by rw [List.length_cons, Nat.add_sub_cancel], by rw [List.length_cons] at hc; omega, by omega, ?_⟩
  rcases h with h | ⟨g', o', hA0, hg, hl, hcell⟩
  · cases h
  · rw [← e1] at hA0
    injection hA0 with hA0
    injection hA0 with e4 e5
    subst e4 e5
    rcases Classical.em (l = []) with h0 | h0
    · exact .inl h0
    · refine .inr ⟨g, o + k, hA h0, hg, hl, fun i p hp j u hu => ?_⟩
      have := hcell (i + 1) p (by rw [List.getElem?_cons_succ]; exact hp) j u hu
      rwa [show o + ((i + 1) * k + j) = o + k + (i * k + j) by rw [Nat.succ_mul]; omega] at this
set_option maxRecDepth 100000 in
set_option maxHeartbeats 1600000 in
theorem same_acts (w : World) (a b c d : Int) : Calls Try.prog 28 #[.agg #[.int .i64 a, .int .i64 b, .int .i64 c, .int .i64 d, .slice none 0 0], .agg #[.int .i64 a, .int .i64 b, .int .i64 c, .int .i64 d, .slice none 0 0]] w (AndPost true w) := by
  have HO := hide (((Only.refl [] w).alloc (.cells #[.int .i64 a, .int .i64 b, .int .i64 c, .int .i64 d, .slice none 0 0] 68)).alloc (.cells #[.int .i64 a, .int .i64 b, .int .i64 c, .int .i64 d, .slice none 0 0] 68))
  have hcv : ∀ W : World, (convert 23 9 (.slice none 0 0)).run Try.prog W = .ok (.string ⟨#[]⟩) W := fun W => rd_string (P := Try.prog) (show Rd W [] (.slice none 0 0) (ints .u8 (byts [])) from Rd.nil W []) 23 9 5 Try.underlying23 Try.underlying5 Try.underlying9
  go_enter Try.func28, Try.ntmps28
  go_wp2_with fail
  go_ret
  exact andpost rfl HO.out
end
end Go.Proofs.Yteoifokmbkpbnaa

/-
  term's Open and the reference's, at any texts: by walking. Condition: at most 1,000,000 bytes.
-/
import Derived.Test.YtfmfnfmhknlpbaaDoorTvQ
namespace Go.Proofs.YtfmfnfmhknlpbaaDoor
open Go.RowKit Go.Deep

theorem three_of {k : Int} {parts : List ByteArray} (hk : k = 10) (hm : fitsV k parts.length = true) : ∃ a b c, parts = [a, b, c] := by
  subst hk
  have hl : parts.length = 3 := by
    simp only [fitsV, leastV, mostV] at hm
    simp at hm
    omega
  match parts, hl with
  | [a, b, c], _ => exact ⟨a, b, c, rfl⟩
theorem open_is {t key v : ByteArray} {n m : Nat} {bs : List UInt8} {p0 p1 p2 : ByteArray} (hp : parseV t = some (10, m, bs, [p0, p1, p2])) :
    openT t key n v = if (eqB p0 key && decide (m = n) && eqB p2 v) = true then (p1, 0) else (ByteArray.empty, 8) := by
  unfold openT
  rw [hp]
  simp only
  rw [if_neg (by decide)]
  by_cases h : p0 = key ∧ m = n ∧ p2 = v
  · obtain ⟨rfl, rfl, rfl⟩ := h
    rw [if_pos ⟨rfl, rfl, rfl⟩, (eqB_iff p0 p0).2 rfl, (eqB_iff p2 p2).2 rfl, decide_eq_true rfl]
    rfl
  · rw [if_neg (show ¬ ([p0, p1, p2].getD 0 ByteArray.empty = key ∧ m = n ∧ [p0, p1, p2].getD 2 ByteArray.empty = v) from h), if_neg]
    intro h2
    simp only [Bool.and_eq_true, decide_eq_true_eq] at h2
    exact h ⟨(eqB_iff _ _).1 h2.1.1, h2.1.2, (eqB_iff _ _).1 h2.2⟩

set_option maxRecDepth 100000 in
set_option maxHeartbeats 6400000 in
theorem Open_any (w : World) (t key v : ByteArray) (n : Nat) (hs : t.size ≤ maxLen) : Calls Tryd.prog 21 #[.string t, .string key, .int .u64 n, .string v] w (OpenPost (openT t key n v) w) := by
  have HP := hide (parse_any w t hs)
  cases hp : parseV t with
  | none =>
    rw [hp] at HP
    have HV := hide (show openT t key n v = (ByteArray.empty, 3) by unfold openT; rw [hp])
    clear hp
    go_enter Tryd.func21, Tryd.ntmps21
    go_wp2_with (go_at_call 61; refine HP.out.mono ?_; rintro e w1 ⟨rfl, ho⟩; unfold nd0; have HO := hide ho; clear ho)
    go_ret2
    exact openpost HV.out (HO.out.alloc _)
  | some nd =>
    obtain ⟨k, m, bs, parts⟩ := nd
    have hm := (read_make hp).2.2.2.1
    by_cases hk : k = 10
    · obtain ⟨p0, p1, p2, rfl⟩ := three_of hk hm
      subst hk
      have HV := hide (open_is (key := key) (n := n) (v := v) hp)
      rw [hp] at HP
      clear hp hm
      unfold eqB at HV
      rcases Bool.eq_false_or_eq_true (p0.toList == key.toList) with e0 | e0
      all_goals
        rcases Bool.eq_false_or_eq_true (p2.toList == v.toList) with e2 | e2
        all_goals
          rcases Bool.eq_false_or_eq_true (decide (m = n)) with em | em
          all_goals
            rw [e0, e2, em] at HV
            simp only [Bool.and_true, Bool.and_false, Bool.false_and, Bool.true_and, if_true, if_false, Bool.false_eq_true] at HV
            have em2 : ((m : Int) != (n : Int)) = !decide (m = n) := by
              by_cases h : m = n
              · subst h; simp
              · rw [decide_eq_false h]; simp; omega
            rw [em] at em2
            simp only [Bool.not_true, Bool.not_false] at em2
            clear em
            go_enter Tryd.func21, Tryd.ntmps21
            go_wp2_with (go_at_call 61; refine HP.out.mono ?_; rintro e w1 ⟨bv, pv, rfl, ho, hb, hp⟩; obtain ⟨A, cap, rfl, _, _⟩ := (hb [] (by simp)).formb; obtain ⟨A2, cap2, rfl, _, _⟩ := (hp [] (by simp)).form; obtain ⟨g, o, rfl, _, hc⟩ := rd_strs ((hp [] (by simp)).only ((Only.refl [] _).alloc (.cells #[.int .i64 10, .int .u64 (m : Nat), .slice A bs.length cap, .slice A2 3 cap2] 81)) (by simp)) (by simp); have s0 := hc 0 (by simp); have s1 := hc 1 (by simp); have s2 := hc 2 (by simp); simp at s0 s1 s2; have HO := hide ho; clear ho hb hp hc; simp only [strs, List.map_cons, List.map_nil, List.length_cons, List.length_nil])
            go_ret2
            exact openpost HV.out (HO.out.alloc _)
    · have HV := hide (show openT t key n v = (ByteArray.empty, 3) by unfold openT; rw [hp]; simp only; rw [if_pos hk])
      rw [hp] at HP
      have hkb : (k != 10) = true := by rw [bne_iff_ne]; exact hk
      clear hp hk hm
      go_enter Tryd.func21, Tryd.ntmps21
      go_wp2_with (go_at_call 61; refine HP.out.mono ?_; rintro e w1 ⟨bv, pv, rfl, ho, hb, hp⟩; obtain ⟨A, cap, rfl, _, _⟩ := (hb [] (by simp)).formb; obtain ⟨A2, cap2, rfl, _, _⟩ := (hp [] (by simp)).form; have HO := hide ho; clear ho hb hp)
      go_ret2
      exact openpost HV.out (HO.out.alloc _)

set_option maxRecDepth 100000 in
set_option maxHeartbeats 6400000 in
theorem OpenR_any (w : World) (t key v : ByteArray) (n : Nat) (hs : t.size ≤ 1000000) : Calls Tryd.prog 22 #[.string t, .string key, .int .u64 n, .string v] w (OpenPost (openT t key n v) w) := by
  have HP := hide (readR_any w t hs)
  cases hp : parseV t with
  | none =>
    rw [hp] at HP
    unfold ReadRPost nd0 at HP
    simp only at HP
    have HV := hide (show openT t key n v = (ByteArray.empty, 3) by unfold openT; rw [hp])
    clear hp
    go_enter Tryd.func22, Tryd.ntmps22
    go_wp2_with (go_at_call 23; refine HP.out.mono ?_; rintro e w1 ⟨rfl, ho⟩; have HO := hide ho; clear ho)
    go_ret2
    exact openpost HV.out (HO.out.alloc _)
  | some nd =>
    obtain ⟨k, m, bs, parts⟩ := nd
    have hm := (read_make hp).2.2.2.1
    by_cases hk : k = 10
    · obtain ⟨p0, p1, p2, rfl⟩ := three_of hk hm
      subst hk
      have HV := hide (open_is (key := key) (n := n) (v := v) hp)
      rw [hp] at HP
      unfold ReadRPost at HP
      simp only at HP
      clear hp hm
      unfold eqB at HV
      rcases Bool.eq_false_or_eq_true (p0.toList == key.toList) with e0 | e0
      all_goals
        rcases Bool.eq_false_or_eq_true (p2.toList == v.toList) with e2 | e2
        all_goals
          rcases Bool.eq_false_or_eq_true (decide (m = n)) with em | em
          all_goals
            rw [e0, e2, em] at HV
            simp only [Bool.and_true, Bool.and_false, Bool.false_and, Bool.true_and, if_true, if_false, Bool.false_eq_true] at HV
            have em2 : ((m : Int) != (n : Int)) = !decide (m = n) := by
              by_cases h : m = n
              · subst h; simp
              · rw [decide_eq_false h]; simp; omega
            rw [em] at em2
            simp only [Bool.not_true, Bool.not_false] at em2
            clear em
            go_enter Tryd.func22, Tryd.ntmps22
            go_wp2_with (go_at_call 23; refine HP.out.mono ?_; rintro e w1 ⟨bv, pv, rfl, ho, hb, hp⟩; obtain ⟨A, cap, rfl, _, _⟩ := (hb [] (by simp)).formb; obtain ⟨A2, cap2, rfl, _, _⟩ := (hp [] (by simp)).form; obtain ⟨g, o, rfl, _, hc⟩ := rd_strs ((hp [] (by simp)).only ((Only.refl [] _).alloc (.cells #[.int .i64 10, .int .u64 (m : Nat), .slice A bs.length cap, .slice A2 3 cap2] 41)) (by simp)) (by simp); have s0 := hc 0 (by simp); have s1 := hc 1 (by simp); have s2 := hc 2 (by simp); simp at s0 s1 s2; have HO := hide ho; clear ho hb hp hc; simp only [strs, List.map_cons, List.map_nil, List.length_cons, List.length_nil])
            go_ret2
            exact openpost HV.out (HO.out.alloc _)
    · have HV := hide (show openT t key n v = (ByteArray.empty, 3) by unfold openT; rw [hp]; simp only; rw [if_pos hk])
      rw [hp] at HP
      unfold ReadRPost at HP
      simp only at HP
      have hkb : (k != 10) = true := by rw [bne_iff_ne]; exact hk
      clear hp hk hm
      go_enter Tryd.func22, Tryd.ntmps22
      go_wp2_with (go_at_call 23; refine HP.out.mono ?_; rintro e w1 ⟨bv, pv, rfl, ho, hb, hp⟩; obtain ⟨A, cap, rfl, _, _⟩ := (hb [] (by simp)).formb; obtain ⟨A2, cap2, rfl, _, _⟩ := (hp [] (by simp)).form; have HO := hide ho; clear ho hb hp)
      go_ret2
      exact openpost HV.out (HO.out.alloc _)
end Go.Proofs.YtfmfnfmhknlpbaaDoor

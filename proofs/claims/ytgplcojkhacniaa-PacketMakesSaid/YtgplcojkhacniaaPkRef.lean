/-
  Contract of the reference's packet Read, by walking.
-/
import Derived.Test.YtgplcojkhacniaaPkT
namespace Go.Proofs.Ytgplcojkhacniaa
open Go.RowKit Go.Deep

/-- bndV by numbers. -/
def bndN (n x0 x2 x3 x4 x5 : Nat) : Nat × Nat × Nat :=
  if n = 0 then (0, 0, 4)
  else if x0 / 16 = 4 then
    if n < 20 then (0, 0, 4)
    else if 4 * (x0 % 16) < 20 ∨ 256 * x2 + x3 < 4 * (x0 % 16) then (0, 0, 3)
    else if n < 256 * x2 + x3 then (0, 0, 4) else (4 * (x0 % 16), 256 * x2 + x3, 0)
  else if x0 / 16 = 6 then
    if n < 40 then (0, 0, 4)
    else if n < 40 + (256 * x4 + x5) then (0, 0, 4) else (40, 40 + (256 * x4 + x5), 0)
  else (0, 0, 3)
theorem bndV_eq (l : List UInt8) : bndV l = bndN l.length (bt l 0) (bt l 2) (bt l 3) (bt l 4) (bt l 5) := rfl

/-- What the reference's Read hands back. -/
def RefPost (g o cap x0 : Nat) (V : Nat × Nat × Nat) (w : World) (e : Ending) (w' : World) : Prop :=
  e = .returned (.tuple #[.agg (if V.2.2 = 0 then (if x0 / 16 = 4 then #[.int .i64 4, .slice (some ⟨g, o + 12, none⟩) 4 (cap - 12), .slice (some ⟨g, o + 16, none⟩) 4 (cap - 16), .int .i64 V.2.1]
    else #[.int .i64 6, .slice (some ⟨g, o + 8, none⟩) 16 (cap - 8), .slice (some ⟨g, o + 24, none⟩) 16 (cap - 24), .int .i64 V.2.1]) else #[.int .i64 0, .slice none 0 0, .slice none 0 0, .int .i64 0]), .int .i64 V.1, .int .i64 V.2.2]) ∧ Only [] w w'
theorem refpost_bad {g o cap x0 : Nat} {V : Nat × Nat × Nat} {w w' : World} {c : Nat} (hV : V = (0, 0, c)) (h0 : c ≠ 0) (ho : Only [] w w') :
    RefPost g o cap x0 V w (.returned (.tuple #[.agg #[.int .i64 0, .slice none 0 0, .slice none 0 0, .int .i64 0], .int .i64 0, .int .i64 c])) w' := by
  subst hV
  refine ⟨?_, ho⟩
  simp only
  rw [if_neg h0]
  rfl

theorem refpost_good {g o cap x0 h n : Nat} {V : Nat × Nat × Nat} {w w' : World} {hd : Array Value} {hI : Int} (hV : V = (h, n, 0))
    (hA : (if x0 / 16 = 4 then #[.int .i64 4, .slice (some ⟨g, o + 12, none⟩) 4 (cap - 12), .slice (some ⟨g, o + 16, none⟩) 4 (cap - 16), .int .i64 (n : Nat)]
    else #[.int .i64 6, .slice (some ⟨g, o + 8, none⟩) 16 (cap - 8), .slice (some ⟨g, o + 24, none⟩) 16 (cap - 24), .int .i64 (n : Nat)]) = hd) (hh : hI = (h : Nat)) (ho : Only [] w w') :
    RefPost g o cap x0 V w (.returned (.tuple #[.agg hd, .int .i64 hI, .int .i64 0])) w' := by
  subst hV hh hA
  exact ⟨rfl, ho⟩


set_option maxRecDepth 100000 in
set_option maxHeartbeats 3200000 in
theorem refread_long (w : World) (N : List Nat) (g o cap : Nat) (l : List UInt8) (hv : Rd w N (.slice (some ⟨g, o, none⟩) l.length cap) (ints .u8 (byts l))) (h40 : 40 ≤ l.length) :
    Calls Try.prog 9 #[.slice (some ⟨g, o, none⟩) l.length cap] w (RefPost g o cap (bt l 0) (bndV l) w) := by
  have hc := hv.at_.2.1
  have hm := hv.at_.2.2.1
  unfold maxLen at hm
  have hgl : g < w.heap.size := by
    obtain ⟨g', o', hA, hl, _⟩ := rd_some hv (by omega)
    injection hA with hA
    injection hA with e1 e2
    subst e1
    exact hl
  have c0 := rd_bt hv (show 0 < l.length by omega)
  have c2 := rd_bt hv (show 2 < l.length by omega)
  have c3 := rd_bt hv (show 3 < l.length by omega)
  have c4 := rd_bt hv (show 4 < l.length by omega)
  have c5 := rd_bt hv (show 5 < l.length by omega)
  rw [Nat.add_zero] at c0
  have b0 := bt_lt l 0
  have b2 := bt_lt l 2
  have b3 := bt_lt l 3
  have b4 := bt_lt l 4
  have b5 := bt_lt l 5
  rw [bndV_eq]
  clear hv
  generalize l.length = n at *
  generalize bt l 0 = x0 at *
  generalize bt l 2 = x2 at *
  generalize bt l 3 = x3 at *
  generalize bt l 4 = x4 at *
  generalize bt l 5 = x5 at *
  have hq : ((n : Int) == 0) = false := by rw [beq_eq_false_iff_ne]; omega
  have i2 : (n : Int) ≤ cap := by omega
  have i1 : (40 : Int) ≤ n := by omega
  by_cases h4 : x0 / 16 = 4
  · have e4 : (x0 : Int) / 16 = 4 := by omega
    have m3 : (12 : Int) ≤ cap := by omega
    have m4 : (16 : Int) ≤ cap := by omega
    have m5 : (20 : Int) ≤ cap := by omega
    have m6 : ¬ cap = 12 := by omega
    have m7 : ¬ cap = 16 := by omega
    have E4 := hide h4
    clear h4
    go_enter Try.func9, Try.ntmps9
    go_wp2_with fail
    go_quiet (fail)
    go_wp2_with fail
    all_goals have h4 := E4.out
    all_goals try first
      | (refine bodyPost_ret (v := .tuple #[.agg #[.int .i64 0, .slice none 0 0, .slice none 0 0, .int .i64 0], .int .i64 0, .int .i64 3]) ?_ rfl (refpost_bad (c := 3) ?_ (by decide) ?_); (simp [results, Try.results9, go_sem]); (unfold bndN; (repeat' split) <;> first | rfl | (exfalso; omega)); (repeat (first | exact Only.refl _ _ | refine Only.drew ?_ | refine Only.drewN ?_ _ | refine Only.setCell ?_ (.inr (by simp)) _ | refine Only.alloc ?_ _)); done)
      | (refine bodyPost_ret (v := .tuple #[.agg #[.int .i64 0, .slice none 0 0, .slice none 0 0, .int .i64 0], .int .i64 0, .int .i64 4]) ?_ rfl (refpost_bad (c := 4) ?_ (by decide) ?_); (simp [results, Try.results9, go_sem]); (unfold bndN; (repeat' split) <;> first | rfl | (exfalso; omega)); (repeat (first | exact Only.refl _ _ | refine Only.drew ?_ | refine Only.drewN ?_ _ | refine Only.setCell ?_ (.inr (by simp)) _ | refine Only.alloc ?_ _)); done)
    go_region_with (fail)
    go_wp2_with fail
    (refine bodyPost_ret (v := .tuple #[.agg #[.int .i64 4, .slice (some ⟨g, o + 12, none⟩) 4 (cap - 12), .slice (some ⟨g, o + 16, none⟩) 4 (cap - 16), .int .i64 (256 * x2 + x3)], .int .i64 (4 * (x0 % 16)), .int .i64 0]) ?_ rfl (refpost_good (h := 4 * (x0 % 16)) (n := 256 * x2 + x3) ?_ ?_ ?_ ?_); (simp [results, Try.results9, go_sem]); (unfold bndN; (repeat' split) <;> first | rfl | (exfalso; omega)); (rw [if_pos h4]; simp); simp; (repeat (first | exact Only.refl _ _ | refine Only.drew ?_ | refine Only.drewN ?_ _ | refine Only.setCell ?_ (.inr (by simp)) _ | refine Only.alloc ?_ _)); done)
  have n4 : ((x0 : Int) / 16 == 4) = false := by rw [beq_eq_false_iff_ne]; omega
  have n4' : ((x0 : Int) / 16 != 4) = true := by simp only [bne, n4]; rfl
  by_cases h6 : x0 / 16 = 6
  · have e6 : (x0 : Int) / 16 = 6 := by omega
    have m3 : (8 : Int) ≤ cap := by omega
    have m4 : (24 : Int) ≤ cap := by omega
    have m5 : (40 : Int) ≤ cap := by omega
    have m6 : ¬ cap = 8 := by omega
    have m7 : ¬ cap = 24 := by omega
    have E6 := hide h6
    clear h4 h6
    go_enter Try.func9, Try.ntmps9
    go_wp2_with fail
    go_quiet (fail)
    go_wp2_with fail
    all_goals have h6 := E6.out
    all_goals try first
      | (refine bodyPost_ret (v := .tuple #[.agg #[.int .i64 0, .slice none 0 0, .slice none 0 0, .int .i64 0], .int .i64 0, .int .i64 3]) ?_ rfl (refpost_bad (c := 3) ?_ (by decide) ?_); (simp [results, Try.results9, go_sem]); (unfold bndN; (repeat' split) <;> first | rfl | (exfalso; omega)); (repeat (first | exact Only.refl _ _ | refine Only.drew ?_ | refine Only.drewN ?_ _ | refine Only.setCell ?_ (.inr (by simp)) _ | refine Only.alloc ?_ _)); done)
      | (refine bodyPost_ret (v := .tuple #[.agg #[.int .i64 0, .slice none 0 0, .slice none 0 0, .int .i64 0], .int .i64 0, .int .i64 4]) ?_ rfl (refpost_bad (c := 4) ?_ (by decide) ?_); (simp [results, Try.results9, go_sem]); (unfold bndN; (repeat' split) <;> first | rfl | (exfalso; omega)); (repeat (first | exact Only.refl _ _ | refine Only.drew ?_ | refine Only.drewN ?_ _ | refine Only.setCell ?_ (.inr (by simp)) _ | refine Only.alloc ?_ _)); done)
    go_region_with (fail)
    go_wp2_with fail
    (refine bodyPost_ret (v := .tuple #[.agg #[.int .i64 6, .slice (some ⟨g, o + 8, none⟩) 16 (cap - 8), .slice (some ⟨g, o + 24, none⟩) 16 (cap - 24), .int .i64 (40 + 256 * x4 + x5)], .int .i64 40, .int .i64 0]) ?_ rfl (refpost_good (h := 40) (n := 40 + (256 * x4 + x5)) ?_ ?_ ?_ ?_); (simp [results, Try.results9, go_sem]); (unfold bndN; (repeat' split) <;> first | rfl | (exfalso; omega)); (rw [if_neg (by omega)]; simp; omega); simp; (repeat (first | exact Only.refl _ _ | refine Only.drew ?_ | refine Only.drewN ?_ _ | refine Only.setCell ?_ (.inr (by simp)) _ | refine Only.alloc ?_ _)); done)
  have n6 : ((x0 : Int) / 16 == 6) = false := by rw [beq_eq_false_iff_ne]; omega
  have n6' : ((x0 : Int) / 16 != 6) = true := by simp only [bne, n6]; rfl
  have E4 := hide h4
  have E6 := hide h6
  clear h4 h6
  go_enter Try.func9, Try.ntmps9
  go_wp2_with fail
  have h4 := E4.out
  have h6 := E6.out
  (refine bodyPost_ret (v := .tuple #[.agg #[.int .i64 0, .slice none 0 0, .slice none 0 0, .int .i64 0], .int .i64 0, .int .i64 3]) ?_ rfl (refpost_bad (c := 3) ?_ (by decide) ?_); (simp [results, Try.results9, go_sem]); (unfold bndN; (repeat' split) <;> first | rfl | (exfalso; omega)); (repeat (first | exact Only.refl _ _ | refine Only.drew ?_ | refine Only.drewN ?_ _ | refine Only.setCell ?_ (.inr (by simp)) _ | refine Only.alloc ?_ _)); done)

set_option maxRecDepth 100000 in
set_option maxHeartbeats 3200000 in
theorem refread_mid (w : World) (N : List Nat) (g o cap : Nat) (l : List UInt8) (hv : Rd w N (.slice (some ⟨g, o, none⟩) l.length cap) (ints .u8 (byts l))) (h20 : 20 ≤ l.length) (h40 : l.length < 40) :
    Calls Try.prog 9 #[.slice (some ⟨g, o, none⟩) l.length cap] w (RefPost g o cap (bt l 0) (bndV l) w) := by
  have hc := hv.at_.2.1
  have hm := hv.at_.2.2.1
  unfold maxLen at hm
  have hgl : g < w.heap.size := by
    obtain ⟨g', o', hA, hl, _⟩ := rd_some hv (by omega)
    injection hA with hA
    injection hA with e1 e2
    subst e1
    exact hl
  have c0 := rd_bt hv (show 0 < l.length by omega)
  have c2 := rd_bt hv (show 2 < l.length by omega)
  have c3 := rd_bt hv (show 3 < l.length by omega)
  rw [Nat.add_zero] at c0
  have b0 := bt_lt l 0
  have b2 := bt_lt l 2
  have b3 := bt_lt l 3
  have b4 := bt_lt l 4
  have b5 := bt_lt l 5
  rw [bndV_eq]
  clear hv
  generalize l.length = n at *
  generalize bt l 0 = x0 at *
  generalize bt l 2 = x2 at *
  generalize bt l 3 = x3 at *
  generalize bt l 4 = x4 at *
  generalize bt l 5 = x5 at *
  have hq : ((n : Int) == 0) = false := by rw [beq_eq_false_iff_ne]; omega
  have i2 : (n : Int) ≤ cap := by omega
  have i0 : (20 : Int) ≤ n := by omega
  have i1 : (n : Int) < 40 := by omega
  by_cases h4 : x0 / 16 = 4
  · have e4 : (x0 : Int) / 16 = 4 := by omega
    have m3 : (12 : Int) ≤ cap := by omega
    have m4 : (16 : Int) ≤ cap := by omega
    have m5 : (20 : Int) ≤ cap := by omega
    have m6 : ¬ cap = 12 := by omega
    have m7 : ¬ cap = 16 := by omega
    have E4 := hide h4
    clear h4
    go_enter Try.func9, Try.ntmps9
    go_wp2_with fail
    go_quiet (fail)
    go_wp2_with fail
    all_goals have h4 := E4.out
    all_goals try first
      | (refine bodyPost_ret (v := .tuple #[.agg #[.int .i64 0, .slice none 0 0, .slice none 0 0, .int .i64 0], .int .i64 0, .int .i64 3]) ?_ rfl (refpost_bad (c := 3) ?_ (by decide) ?_); (simp [results, Try.results9, go_sem]); (unfold bndN; (repeat' split) <;> first | rfl | (exfalso; omega)); (repeat (first | exact Only.refl _ _ | refine Only.drew ?_ | refine Only.drewN ?_ _ | refine Only.setCell ?_ (.inr (by simp)) _ | refine Only.alloc ?_ _)); done)
      | (refine bodyPost_ret (v := .tuple #[.agg #[.int .i64 0, .slice none 0 0, .slice none 0 0, .int .i64 0], .int .i64 0, .int .i64 4]) ?_ rfl (refpost_bad (c := 4) ?_ (by decide) ?_); (simp [results, Try.results9, go_sem]); (unfold bndN; (repeat' split) <;> first | rfl | (exfalso; omega)); (repeat (first | exact Only.refl _ _ | refine Only.drew ?_ | refine Only.drewN ?_ _ | refine Only.setCell ?_ (.inr (by simp)) _ | refine Only.alloc ?_ _)); done)
    go_region_with (fail)
    go_wp2_with fail
    (refine bodyPost_ret (v := .tuple #[.agg #[.int .i64 4, .slice (some ⟨g, o + 12, none⟩) 4 (cap - 12), .slice (some ⟨g, o + 16, none⟩) 4 (cap - 16), .int .i64 (256 * x2 + x3)], .int .i64 (4 * (x0 % 16)), .int .i64 0]) ?_ rfl (refpost_good (h := 4 * (x0 % 16)) (n := 256 * x2 + x3) ?_ ?_ ?_ ?_); (simp [results, Try.results9, go_sem]); (unfold bndN; (repeat' split) <;> first | rfl | (exfalso; omega)); (rw [if_pos h4]; simp); simp; (repeat (first | exact Only.refl _ _ | refine Only.drew ?_ | refine Only.drewN ?_ _ | refine Only.setCell ?_ (.inr (by simp)) _ | refine Only.alloc ?_ _)); done)
  have n4 : ((x0 : Int) / 16 == 4) = false := by rw [beq_eq_false_iff_ne]; omega
  have n4' : ((x0 : Int) / 16 != 4) = true := by simp only [bne, n4]; rfl
  by_cases h6 : x0 / 16 = 6
  · have e6 : (x0 : Int) / 16 = 6 := by omega
    have E6 := hide h6
    clear h4 h6
    go_enter Try.func9, Try.ntmps9
    go_wp2_with fail
    have h6 := E6.out
    (refine bodyPost_ret (v := .tuple #[.agg #[.int .i64 0, .slice none 0 0, .slice none 0 0, .int .i64 0], .int .i64 0, .int .i64 4]) ?_ rfl (refpost_bad (c := 4) ?_ (by decide) ?_); (simp [results, Try.results9, go_sem]); (unfold bndN; (repeat' split) <;> first | rfl | (exfalso; omega)); (repeat (first | exact Only.refl _ _ | refine Only.drew ?_ | refine Only.drewN ?_ _ | refine Only.setCell ?_ (.inr (by simp)) _ | refine Only.alloc ?_ _)); done)
  have n6 : ((x0 : Int) / 16 == 6) = false := by rw [beq_eq_false_iff_ne]; omega
  have n6' : ((x0 : Int) / 16 != 6) = true := by simp only [bne, n6]; rfl
  have E4 := hide h4
  have E6 := hide h6
  clear h4 h6
  go_enter Try.func9, Try.ntmps9
  go_wp2_with fail
  have h4 := E4.out
  have h6 := E6.out
  (refine bodyPost_ret (v := .tuple #[.agg #[.int .i64 0, .slice none 0 0, .slice none 0 0, .int .i64 0], .int .i64 0, .int .i64 3]) ?_ rfl (refpost_bad (c := 3) ?_ (by decide) ?_); (simp [results, Try.results9, go_sem]); (unfold bndN; (repeat' split) <;> first | rfl | (exfalso; omega)); (repeat (first | exact Only.refl _ _ | refine Only.drew ?_ | refine Only.drewN ?_ _ | refine Only.setCell ?_ (.inr (by simp)) _ | refine Only.alloc ?_ _)); done)

set_option maxRecDepth 100000 in
set_option maxHeartbeats 3200000 in
theorem refread_short (w : World) (N : List Nat) (g o cap : Nat) (l : List UInt8) (hv : Rd w N (.slice (some ⟨g, o, none⟩) l.length cap) (ints .u8 (byts l))) (h0 : 0 < l.length) (h20 : l.length < 20) :
    Calls Try.prog 9 #[.slice (some ⟨g, o, none⟩) l.length cap] w (RefPost g o cap (bt l 0) (bndV l) w) := by
  have hc := hv.at_.2.1
  have hm := hv.at_.2.2.1
  unfold maxLen at hm
  have hgl : g < w.heap.size := by
    obtain ⟨g', o', hA, hl, _⟩ := rd_some hv (by omega)
    injection hA with hA
    injection hA with e1 e2
    subst e1
    exact hl
  have c0 := rd_bt hv (show 0 < l.length by omega)
  rw [Nat.add_zero] at c0
  have b0 := bt_lt l 0
  have b2 := bt_lt l 2
  have b3 := bt_lt l 3
  have b4 := bt_lt l 4
  have b5 := bt_lt l 5
  rw [bndV_eq]
  clear hv
  generalize l.length = n at *
  generalize bt l 0 = x0 at *
  generalize bt l 2 = x2 at *
  generalize bt l 3 = x3 at *
  generalize bt l 4 = x4 at *
  generalize bt l 5 = x5 at *
  have hq : ((n : Int) == 0) = false := by rw [beq_eq_false_iff_ne]; omega
  have i2 : (n : Int) ≤ cap := by omega
  have i0 : (0 : Int) < n := by omega
  have i1 : (n : Int) < 20 := by omega
  by_cases h4 : x0 / 16 = 4
  · have e4 : (x0 : Int) / 16 = 4 := by omega
    have E4 := hide h4
    clear h4
    go_enter Try.func9, Try.ntmps9
    go_wp2_with fail
    have h4 := E4.out
    (refine bodyPost_ret (v := .tuple #[.agg #[.int .i64 0, .slice none 0 0, .slice none 0 0, .int .i64 0], .int .i64 0, .int .i64 4]) ?_ rfl (refpost_bad (c := 4) ?_ (by decide) ?_); (simp [results, Try.results9, go_sem]); (unfold bndN; (repeat' split) <;> first | rfl | (exfalso; omega)); (repeat (first | exact Only.refl _ _ | refine Only.drew ?_ | refine Only.drewN ?_ _ | refine Only.setCell ?_ (.inr (by simp)) _ | refine Only.alloc ?_ _)); done)
  have n4 : ((x0 : Int) / 16 == 4) = false := by rw [beq_eq_false_iff_ne]; omega
  have n4' : ((x0 : Int) / 16 != 4) = true := by simp only [bne, n4]; rfl
  by_cases h6 : x0 / 16 = 6
  · have e6 : (x0 : Int) / 16 = 6 := by omega
    have E6 := hide h6
    clear h4 h6
    go_enter Try.func9, Try.ntmps9
    go_wp2_with fail
    have h6 := E6.out
    (refine bodyPost_ret (v := .tuple #[.agg #[.int .i64 0, .slice none 0 0, .slice none 0 0, .int .i64 0], .int .i64 0, .int .i64 4]) ?_ rfl (refpost_bad (c := 4) ?_ (by decide) ?_); (simp [results, Try.results9, go_sem]); (unfold bndN; (repeat' split) <;> first | rfl | (exfalso; omega)); (repeat (first | exact Only.refl _ _ | refine Only.drew ?_ | refine Only.drewN ?_ _ | refine Only.setCell ?_ (.inr (by simp)) _ | refine Only.alloc ?_ _)); done)
  have n6 : ((x0 : Int) / 16 == 6) = false := by rw [beq_eq_false_iff_ne]; omega
  have n6' : ((x0 : Int) / 16 != 6) = true := by simp only [bne, n6]; rfl
  have E4 := hide h4
  have E6 := hide h6
  clear h4 h6
  go_enter Try.func9, Try.ntmps9
  go_wp2_with fail
  have h4 := E4.out
  have h6 := E6.out
  (refine bodyPost_ret (v := .tuple #[.agg #[.int .i64 0, .slice none 0 0, .slice none 0 0, .int .i64 0], .int .i64 0, .int .i64 3]) ?_ rfl (refpost_bad (c := 3) ?_ (by decide) ?_); (simp [results, Try.results9, go_sem]); (unfold bndN; (repeat' split) <;> first | rfl | (exfalso; omega)); (repeat (first | exact Only.refl _ _ | refine Only.drew ?_ | refine Only.drewN ?_ _ | refine Only.setCell ?_ (.inr (by simp)) _ | refine Only.alloc ?_ _)); done)

theorem refread_nil (w : World) (A : Option Addr) (cap : Nat) (g o : Nat) : Calls Try.prog 9 #[.slice A 0 cap] w (RefPost g o cap 0 (0, 0, 4) w) := by
  go_enter Try.func9, Try.ntmps9
  go_wp2_with fail
  (refine bodyPost_ret (v := .tuple #[.agg #[.int .i64 0, .slice none 0 0, .slice none 0 0, .int .i64 0], .int .i64 0, .int .i64 4]) ?_ rfl (refpost_bad (c := 4) ?_ (by decide) ?_); (simp [results, Try.results9, go_sem]); rfl; (repeat (first | exact Only.refl _ _ | refine Only.drew ?_ | refine Only.drewN ?_ _ | refine Only.setCell ?_ (.inr (by simp)) _ | refine Only.alloc ?_ _)); done)
end Go.Proofs.Ytgplcojkhacniaa

/-
  The reference's slots: Begun, Count: by walking.
-/
import Derived.Test.YtjkgmkkhjpcngaaSo5
namespace Go.Proofs.Ytjkgmkkhjpcngaa
open Go.RowKit Go.Deep

set_option maxHeartbeats 3200000 in
theorem refbegun_any (w : World) (a b c x : Int) : Calls Try.prog 26 #[.agg #[.int .i64 a, .int .i64 b, .int .i64 c], .int .i64 x] w (RefPost (if 0 ≤ c then c else b) x (-1) w) := by
  have HO := hide (((Only.refl [] w).alloc (.cells #[.int .i64 a, .int .i64 b, .int .i64 c] 56)).alloc (.cells #[.int .i64 0, .int .i64 0, .int .i64 0] 56))
  have HB := hide (Blk.new (w.alloc (.cells #[.int .i64 a, .int .i64 b, .int .i64 c] 56)) 56 #[.int .i64 0, .int .i64 0, .int .i64 0])
  simp only [World.size_alloc] at HB
  by_cases h : 0 ≤ c
  · have HV := hide (show (if 0 ≤ c then c else b) = c by rw [if_pos h])
    rw [HV.out]
    go_enter Try.func26, Try.ntmps26
    go_wp2
    have HF := hide (Blk.new (w.alloc (.cells #[.int .i64 a, .int .i64 b, .int .i64 c] 56)) 56 #[.int .i64 c, .int .i64 x, .int .i64 (-1)])
    simp only [World.size_alloc] at HF
    refine bodyPost_ret (results_cell_row rfl _ _ (w.heap.size + 1) 56 _ (0, 0) _ rfl HF.out Try.underlying56 rfl (by kernel_rfl)) rfl ?_
    exact ⟨rfl, ((Only.refl [] w).alloc _).alloc _⟩
  · have HV := hide (show (if 0 ≤ c then c else b) = b by rw [if_neg h])
    rw [HV.out]
    go_enter Try.func26, Try.ntmps26
    go_wp2_with (go_at_call 29; refine (refshift_any _ _ _ _ _).mono ?_; rintro e w1 ⟨rfl, ho⟩; have HB1 := hide (HB.out.only ho (by simp)); have HO1 := hide (HO.out.trans ho); have c0 := HB1.out.cell 0; have c1 := HB1.out.cell 1; have c2 := HB1.out.cell 2; simp at c0 c1 c2; have f0 := HB1.out.frozen 0; have f1 := HB1.out.frozen 1; have f2 := HB1.out.frozen 2; clear ho)
    have HF := hide ((((HB1.out.set_ 0 (.int .i64 b)).set_ 1 (.int .i64 x))).set_ 2 (.int .i64 (-1)))
    refine bodyPost_ret (results_cell_row rfl _ _ (w.heap.size + 1) 56 _ (0, 0) _ rfl HF.out Try.underlying56 rfl (by kernel_rfl)) rfl ?_
    exact ⟨rfl, ((HO1.out.setCell (p := ⟨w.heap.size + 1, 0, none⟩) (.inr (by simp)) _).setCell (p := ⟨w.heap.size + 1, 1, none⟩) (.inr (by simp)) _).setCell (p := ⟨w.heap.size + 1, 2, none⟩) (.inr (by simp)) _⟩

def cntI (a : Int) : Int := if 0 ≤ a then 1 else 0
set_option maxRecDepth 100000 in
set_option maxHeartbeats 6400000 in
theorem refcount_any (w : World) (a b c : Int) : Calls Try.prog 31 #[.agg #[.int .i64 a, .int .i64 b, .int .i64 c]] w fun e w' => e = .returned (.int .i64 (cntI a + cntI b + cntI c)) ∧ Only [] w w' := by
  have HO := hide ((Only.refl [] w).alloc (.cells #[.int .i64 a, .int .i64 b, .int .i64 c] 56))
  have HB := hide (Blk.new w 56 #[.int .i64 a, .int .i64 b, .int .i64 c])
  have HX := hide (Only.refl [] (w.alloc (.cells #[.int .i64 a, .int .i64 b, .int .i64 c] 56)))
  have e1 : at3 a b c 1 = a := rfl
  have e2 : at3 a b c 2 = b := rfl
  have e3 : at3 a b c 3 = c := rfl
  have ha : Hid (cntI a = if 0 ≤ a then 1 else 0) := hide rfl
  have hb : Hid (cntI b = if 0 ≤ b then 1 else 0) := hide rfl
  have hc : Hid (cntI c = if 0 ≤ c then 1 else 0) := hide rfl
  by_cases ka : 0 ≤ a
  all_goals
    by_cases kb : 0 ≤ b
    all_goals
      by_cases kc : 0 ≤ c
      all_goals
        go_enter Try.func31, Try.ntmps31
        go_wp2_with fail
        refine wp_loop_rounds 4 ?_
        repeat any_goals (rw [rounds_succ]; go_wp2_with (go_at_call 33; refine (refat_any _ _ _ _ _).mono ?_; rintro e w1 ⟨rfl, ho⟩; have HX := hide (HX.out.trans ho); have HB1 := hide (HB.out.only HX.out (by simp)); have c0 := HB1.out.cell 0; have c1 := HB1.out.cell 1; have c2 := HB1.out.cell 2; simp at c0 c1 c2; clear ho))
        go_ret
        refine ⟨?_, HO.out.trans HX.out⟩
        rw [ha.out, hb.out, hc.out]
        (repeat' split) <;> first | omega | rfl
end Go.Proofs.Ytjkgmkkhjpcngaa

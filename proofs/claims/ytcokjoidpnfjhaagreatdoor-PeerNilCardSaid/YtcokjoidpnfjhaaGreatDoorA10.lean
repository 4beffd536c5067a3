/-
  Walks and plain words (texts Wj2). No condition beyond those that each theorem states.
-/
import Derived.StillTailTactics
import Derived.Test.YtcokjoidpnfjhaaGreatDoorA08
namespace Go.Proofs.YtcokjoidpnfjhaaGreatDoor
section
open Go.RowKit Go.Deep

set_option maxRecDepth 100000 in
set_option maxHeartbeats 12800000 in
theorem proper_2 (w : World) (s r c : Nat) (x4 x5 x6 x7 x8 x9 x10 x11 x12 : ByteArray) (hF : (Mg.mk 2 s r c x4 x5 x6 x7 x8 x9 x10 x11 x12).Fine) :
    Calls Tryz.prog 138 #[.agg #[.int .i64 2, .int .u32 (s : Nat), .int .u32 (r : Nat), .int .u64 (c : Nat), .string x4, .string x5, .string x6, .string x7, .string x8, .string x9, .string x10, .string x11, .string x12]] w (PropPost 6 row2C (rightM (Mg.mk 2 s r c x4 x5 x6 x7 x8 x9 x10 x11 x12)) w) := by
  have hst := fun (W : World) (a : Addr) (fn : Fn) (c : Array Value) => (run_store Tryz.prog W a (.func fn #[] c) .plain rfl : (store a (.func fn #[] c)).run Tryz.prog W = stored Tryz.prog W a (.func fn #[] c) .plain)
  have hsn := fun (W : World) (a : Addr) => (run_store Tryz.prog W a .nilFunc .plain rfl : (store a .nilFunc).run Tryz.prog W = stored Tryz.prog W a .nilFunc .plain)
  obtain ⟨hs, hr, hc, hx4, hx5, hx6, hx7, hx8, hx9, hx10, hx11, hx12⟩ := hF
  simp only at hs hr hc hx4 hx5 hx6 hx7 hx8 hx9 hx10 hx11 hx12
  have HRW := hide (fun W => row_2 W)
  unfold RowPost at HRW
  have HMB := hide (Blk.new w 29 #[.int .i64 2, .int .u32 (s : Nat), .int .u32 (r : Nat), .int .u64 (c : Nat), .string x4, .string x5, .string x6, .string x7, .string x8, .string x9, .string x10, .string x11, .string x12])
  have HO := hide ((Only.refl [] w).alloc (.cells #[.int .i64 2, .int .u32 (s : Nat), .int .u32 (r : Nat), .int .u64 (c : Nat), .string x4, .string x5, .string x6, .string x7, .string x8, .string x9, .string x10, .string x11, .string x12] 29))
  go_enter Tryz.func138, Tryz.ntmps138
  go_upto_region 4 with (go_at_call 174; refine (HRW.out _).mono ?_; rintro e w1 ⟨g, b1, b2, rfl, hg, hb1, hb2, hrow, hx1, hx2, ho⟩; rw [World.size_alloc] at hg hb1 hb2; have HROW := hide hrow; have HX1 := hide hx1; have HX2 := hide hx2; have HGR := hide hg; have HB1 := hide hb1; have HB2 := hide hb2; replace HMB := hide (HMB.out.only ho (by simp)); replace HO := hide (HO.out.trans ho); clear hg hb1 hb2 hrow hx1 hx2 ho; have m0 := HMB.out.cell 0; simp at m0)
  have HPB := hide (Blk.new w1 29 #[.int .i64 2, .int .u32 0, .int .u32 0, .int .u64 0, .string ⟨#[]⟩, .string ⟨#[]⟩, .string ⟨#[]⟩, .string ⟨#[]⟩, .string ⟨#[]⟩, .string ⟨#[]⟩, .string ⟨#[]⟩, .string ⟨#[]⟩, .string ⟨#[]⟩])
  have HD := hide (show w.heap.size < w1.heap.size ∧ g < w1.heap.size ∧ b1 < w1.heap.size ∧ b2 < w1.heap.size ∧ w.heap.size < g ∧ w.heap.size < b1 ∧ w.heap.size < b2 from ⟨HMB.out.lt, HROW.out.lt, HX1.out.lt, HX2.out.lt, by have := HGR.out; omega, by have := HB1.out; omega, by have := HB2.out; omega⟩)
  clear HGR HB1 HB2
  go_upto_region 6 with fail
  replace HMB := hide (HMB.out.alloc (.cells #[.int .i64 2, .int .u32 0, .int .u32 0, .int .u64 0, .string ⟨#[]⟩, .string ⟨#[]⟩, .string ⟨#[]⟩, .string ⟨#[]⟩, .string ⟨#[]⟩, .string ⟨#[]⟩, .string ⟨#[]⟩, .string ⟨#[]⟩, .string ⟨#[]⟩] 29))
  replace HROW := hide (HROW.out.alloc (.cells #[.int .i64 2, .int .u32 0, .int .u32 0, .int .u64 0, .string ⟨#[]⟩, .string ⟨#[]⟩, .string ⟨#[]⟩, .string ⟨#[]⟩, .string ⟨#[]⟩, .string ⟨#[]⟩, .string ⟨#[]⟩, .string ⟨#[]⟩, .string ⟨#[]⟩] 29))
  replace HX1 := hide (HX1.out.alloc (.cells #[.int .i64 2, .int .u32 0, .int .u32 0, .int .u64 0, .string ⟨#[]⟩, .string ⟨#[]⟩, .string ⟨#[]⟩, .string ⟨#[]⟩, .string ⟨#[]⟩, .string ⟨#[]⟩, .string ⟨#[]⟩, .string ⟨#[]⟩, .string ⟨#[]⟩] 29))
  replace HX2 := hide (HX2.out.alloc (.cells #[.int .i64 2, .int .u32 0, .int .u32 0, .int .u64 0, .string ⟨#[]⟩, .string ⟨#[]⟩, .string ⟨#[]⟩, .string ⟨#[]⟩, .string ⟨#[]⟩, .string ⟨#[]⟩, .string ⟨#[]⟩, .string ⟨#[]⟩, .string ⟨#[]⟩] 29))
  replace HO := hide (HO.out.alloc (.cells #[.int .i64 2, .int .u32 0, .int .u32 0, .int .u64 0, .string ⟨#[]⟩, .string ⟨#[]⟩, .string ⟨#[]⟩, .string ⟨#[]⟩, .string ⟨#[]⟩, .string ⟨#[]⟩, .string ⟨#[]⟩, .string ⟨#[]⟩, .string ⟨#[]⟩] 29))
  clear m0
  generalize (w1.alloc (.cells #[.int .i64 2, .int .u32 0, .int .u32 0, .int .u64 0, .string ⟨#[]⟩, .string ⟨#[]⟩, .string ⟨#[]⟩, .string ⟨#[]⟩, .string ⟨#[]⟩, .string ⟨#[]⟩, .string ⟨#[]⟩, .string ⟨#[]⟩, .string ⟨#[]⟩] 29)) = v0 at *
  refine wp_loop_rounds 7 ?_
  rw [rounds_succ]
  have a0 := HROW.out.cell 0; have a1 := HROW.out.cell 1; have a2 := HROW.out.cell 2; have a3 := HROW.out.cell 3
  simp [row2C, numC, txtC] at a0 a1 a2 a3
  go_upto_region 8 with fail
  have HF := hide (Blk.new v0 230 #[.int .i64 4, .func (.func 238) #[] #[.pointer (some ⟨b1, 0, none⟩)], .func (.func 239) #[] #[.pointer (some ⟨b1, 0, none⟩)], .nilFunc])
  have HFL := hide (show w1.heap.size < v0.heap.size from HPB.out.lt)
  replace HMB := hide (HMB.out.alloc (.cells #[.int .i64 4, .func (.func 238) #[] #[.pointer (some ⟨b1, 0, none⟩)], .func (.func 239) #[] #[.pointer (some ⟨b1, 0, none⟩)], .nilFunc] 230))
  replace HROW := hide (HROW.out.alloc (.cells #[.int .i64 4, .func (.func 238) #[] #[.pointer (some ⟨b1, 0, none⟩)], .func (.func 239) #[] #[.pointer (some ⟨b1, 0, none⟩)], .nilFunc] 230))
  replace HX1 := hide (HX1.out.alloc (.cells #[.int .i64 4, .func (.func 238) #[] #[.pointer (some ⟨b1, 0, none⟩)], .func (.func 239) #[] #[.pointer (some ⟨b1, 0, none⟩)], .nilFunc] 230))
  replace HX2 := hide (HX2.out.alloc (.cells #[.int .i64 4, .func (.func 238) #[] #[.pointer (some ⟨b1, 0, none⟩)], .func (.func 239) #[] #[.pointer (some ⟨b1, 0, none⟩)], .nilFunc] 230))
  replace HPB := hide (HPB.out.alloc (.cells #[.int .i64 4, .func (.func 238) #[] #[.pointer (some ⟨b1, 0, none⟩)], .func (.func 239) #[] #[.pointer (some ⟨b1, 0, none⟩)], .nilFunc] 230))
  replace HO := hide (HO.out.alloc (.cells #[.int .i64 4, .func (.func 238) #[] #[.pointer (some ⟨b1, 0, none⟩)], .func (.func 239) #[] #[.pointer (some ⟨b1, 0, none⟩)], .nilFunc] 230))
  generalize (v0.alloc (.cells #[.int .i64 4, .func (.func 238) #[] #[.pointer (some ⟨b1, 0, none⟩)], .func (.func 239) #[] #[.pointer (some ⟨b1, 0, none⟩)], .nilFunc] 230)) = u0 at *
  have f0 := HF.out.cell 0; have f1 := HF.out.cell 1; have f2 := HF.out.cell 2; have f3 := HF.out.cell 3; simp at f0 f1 f2 f3
  have mi := HMB.out.cell 1; have pi_ := HPB.out.cell 1; have pf := HPB.out.frozen 1; simp at mi pi_
  clear a0 a1 a2 a3
  have x0 := HX1.out.cell 0; simp at x0
  have HG := hide ((numget1 w.heap.size b1 s u0.drew x0 mi hs).mono fun e w' h => (⟨h.1, h.2.symm⟩ : _ ∧ w' = u0.drew))
  go_wp2_with fail
  refine wp_region_still_tail 5 (by kernel_rfl) (by kernel_rfl) ?_
  simp only [List.take_succ_cons, List.take_zero, List.drop_succ_cons, List.drop_zero]
  repeat still_step
  still_call HG.out
  repeat still_step
  refine wpStill_nil ?_
  change wpList _ _ _ _ _ u0.drew
  go_wp2_with (go_at_call 239; go_loud (refine (numset1 w1.heap.size b1 s _ (by exact x0) (y := 0) (by exact pi_) (by exact pf) hs).mono ?_; rintro e v1 ⟨rfl, hw⟩; have ho : Only [w1.heap.size] u0 v1 := (by rw [hw]; exact (Only.refl [w1.heap.size] u0).drew.setCell (p := ⟨w1.heap.size, 1, none⟩) (.inl (by simp)) _); replace HPB := hide (show Blk v1 w1.heap.size 29 #[.int .i64 2, .int .u32 (s : Nat), .int .u32 0, .int .u64 0, .string ⟨#[]⟩, .string ⟨#[]⟩, .string ⟨#[]⟩, .string ⟨#[]⟩, .string ⟨#[]⟩, .string ⟨#[]⟩, .string ⟨#[]⟩, .string ⟨#[]⟩, .string ⟨#[]⟩] from (by have h := HPB.out.drew.set_ 1 (.int .u32 (s : Nat)); simp only [List.setIfInBounds_toArray, List.set_cons_zero, List.set_cons_succ] at h; rw [hw]; exact h)); replace HMB := hide (HMB.out.only ho (by have := HD.out; simp; omega)); replace HROW := hide (HROW.out.only ho (by have := HD.out; simp; omega)); replace HX1 := hide (HX1.out.only ho (by have := HD.out; simp; omega)); replace HX2 := hide (HX2.out.only ho (by have := HD.out; simp; omega)); replace HO := hide ((HO.out.mono (S' := [w1.heap.size]) (by simp)).trans ho |>.mono (S' := []) (by have := HD.out; simp; omega)); clear ho hw))
  clear f0 f1 f2 f3 mi pi_ pf HG HF HFL x0
  rw [rounds_succ]
  have a0 := HROW.out.cell 4; have a1 := HROW.out.cell 5; have a2 := HROW.out.cell 6; have a3 := HROW.out.cell 7
  simp [row2C, numC, txtC] at a0 a1 a2 a3
  go_upto_region 8 with fail
  have HF := hide (Blk.new v1 230 #[.int .i64 4, .func (.func 238) #[] #[.pointer (some ⟨b2, 0, none⟩)], .func (.func 239) #[] #[.pointer (some ⟨b2, 0, none⟩)], .nilFunc])
  have HFL := hide (show w1.heap.size < v1.heap.size from HPB.out.lt)
  replace HMB := hide (HMB.out.alloc (.cells #[.int .i64 4, .func (.func 238) #[] #[.pointer (some ⟨b2, 0, none⟩)], .func (.func 239) #[] #[.pointer (some ⟨b2, 0, none⟩)], .nilFunc] 230))
  replace HROW := hide (HROW.out.alloc (.cells #[.int .i64 4, .func (.func 238) #[] #[.pointer (some ⟨b2, 0, none⟩)], .func (.func 239) #[] #[.pointer (some ⟨b2, 0, none⟩)], .nilFunc] 230))
  replace HX1 := hide (HX1.out.alloc (.cells #[.int .i64 4, .func (.func 238) #[] #[.pointer (some ⟨b2, 0, none⟩)], .func (.func 239) #[] #[.pointer (some ⟨b2, 0, none⟩)], .nilFunc] 230))
  replace HX2 := hide (HX2.out.alloc (.cells #[.int .i64 4, .func (.func 238) #[] #[.pointer (some ⟨b2, 0, none⟩)], .func (.func 239) #[] #[.pointer (some ⟨b2, 0, none⟩)], .nilFunc] 230))
  replace HPB := hide (HPB.out.alloc (.cells #[.int .i64 4, .func (.func 238) #[] #[.pointer (some ⟨b2, 0, none⟩)], .func (.func 239) #[] #[.pointer (some ⟨b2, 0, none⟩)], .nilFunc] 230))
  replace HO := hide (HO.out.alloc (.cells #[.int .i64 4, .func (.func 238) #[] #[.pointer (some ⟨b2, 0, none⟩)], .func (.func 239) #[] #[.pointer (some ⟨b2, 0, none⟩)], .nilFunc] 230))
  generalize (v1.alloc (.cells #[.int .i64 4, .func (.func 238) #[] #[.pointer (some ⟨b2, 0, none⟩)], .func (.func 239) #[] #[.pointer (some ⟨b2, 0, none⟩)], .nilFunc] 230)) = u1 at *
  have f0 := HF.out.cell 0; have f1 := HF.out.cell 1; have f2 := HF.out.cell 2; have f3 := HF.out.cell 3; simp at f0 f1 f2 f3
  have mi := HMB.out.cell 2; have pi_ := HPB.out.cell 2; have pf := HPB.out.frozen 2; simp at mi pi_
  clear a0 a1 a2 a3
  have x0 := HX2.out.cell 0; simp at x0
  have HG := hide ((numget2 w.heap.size b2 r u1.drew x0 mi hr).mono fun e w' h => (⟨h.1, h.2.symm⟩ : _ ∧ w' = u1.drew))
  go_wp2_with fail
  refine wp_region_still_tail 5 (by kernel_rfl) (by kernel_rfl) ?_
  simp only [List.take_succ_cons, List.take_zero, List.drop_succ_cons, List.drop_zero]
  repeat still_step
  still_call HG.out
  repeat still_step
  refine wpStill_nil ?_
  change wpList _ _ _ _ _ u1.drew
  go_wp2_with (go_at_call 239; go_loud (refine (numset2 w1.heap.size b2 r _ (by exact x0) (y := 0) (by exact pi_) (by exact pf) hr).mono ?_; rintro e v2 ⟨rfl, hw⟩; have ho : Only [w1.heap.size] u1 v2 := (by rw [hw]; exact (Only.refl [w1.heap.size] u1).drew.setCell (p := ⟨w1.heap.size, 2, none⟩) (.inl (by simp)) _); replace HPB := hide (show Blk v2 w1.heap.size 29 #[.int .i64 2, .int .u32 (s : Nat), .int .u32 (r : Nat), .int .u64 0, .string ⟨#[]⟩, .string ⟨#[]⟩, .string ⟨#[]⟩, .string ⟨#[]⟩, .string ⟨#[]⟩, .string ⟨#[]⟩, .string ⟨#[]⟩, .string ⟨#[]⟩, .string ⟨#[]⟩] from (by have h := HPB.out.drew.set_ 2 (.int .u32 (r : Nat)); simp only [List.setIfInBounds_toArray, List.set_cons_zero, List.set_cons_succ] at h; rw [hw]; exact h)); replace HMB := hide (HMB.out.only ho (by have := HD.out; simp; omega)); replace HROW := hide (HROW.out.only ho (by have := HD.out; simp; omega)); replace HX1 := hide (HX1.out.only ho (by have := HD.out; simp; omega)); replace HX2 := hide (HX2.out.only ho (by have := HD.out; simp; omega)); replace HO := hide ((HO.out.mono (S' := [w1.heap.size]) (by simp)).trans ho |>.mono (S' := []) (by have := HD.out; simp; omega)); clear ho hw))
  clear f0 f1 f2 f3 mi pi_ pf HG HF HFL x0
  rw [rounds_succ]
  have a0 := HROW.out.cell 8; have a1 := HROW.out.cell 9; have a2 := HROW.out.cell 10; have a3 := HROW.out.cell 11
  simp [row2C, numC, txtC] at a0 a1 a2 a3
  go_upto_region 8 with fail
  have HF := hide (Blk.new v2 230 #[.int .i64 0, .nilFunc, .nilFunc, .func (.func 209) #[] #[]])
  have HFL := hide (show w1.heap.size < v2.heap.size from HPB.out.lt)
  replace HMB := hide (HMB.out.alloc (.cells #[.int .i64 0, .nilFunc, .nilFunc, .func (.func 209) #[] #[]] 230))
  replace HROW := hide (HROW.out.alloc (.cells #[.int .i64 0, .nilFunc, .nilFunc, .func (.func 209) #[] #[]] 230))
  replace HX1 := hide (HX1.out.alloc (.cells #[.int .i64 0, .nilFunc, .nilFunc, .func (.func 209) #[] #[]] 230))
  replace HX2 := hide (HX2.out.alloc (.cells #[.int .i64 0, .nilFunc, .nilFunc, .func (.func 209) #[] #[]] 230))
  replace HPB := hide (HPB.out.alloc (.cells #[.int .i64 0, .nilFunc, .nilFunc, .func (.func 209) #[] #[]] 230))
  replace HO := hide (HO.out.alloc (.cells #[.int .i64 0, .nilFunc, .nilFunc, .func (.func 209) #[] #[]] 230))
  generalize (v2.alloc (.cells #[.int .i64 0, .nilFunc, .nilFunc, .func (.func 209) #[] #[]] 230)) = u2 at *
  have f0 := HF.out.cell 0; have f1 := HF.out.cell 1; have f2 := HF.out.cell 2; have f3 := HF.out.cell 3; simp at f0 f1 f2 f3
  have mi := HMB.out.cell 4; have pi_ := HPB.out.cell 4; have pf := HPB.out.frozen 4; simp at mi pi_
  clear a0 a1 a2 a3
  have HFT := hide (fun W => fit_any W x4 hx4)
  unfold RetB at HFT
  cases hf4 : fitW x4
  case false =>
    rw [hf4] at HFT
    have HV := hide (show rightM (Mg.mk 2 s r c x4 x5 x6 x7 x8 x9 x10 x11 x12) = false by simp [rightM, textsM, hf4])
    clear hf4
    go_wp2_with (first | (go_at_call 209; refine (place4 _ _).mono ?_; rintro e w4 ⟨rfl, rfl⟩) | (go_at_call 192; refine (HFT.out _).mono ?_; rintro e w3 ⟨rfl, ho⟩; replace HO := hide (HO.out.trans ho); clear ho))
    go_ret2
    exact prop_no HV.out HO.out
  rw [hf4] at HFT
  have HB4 := hide hf4
  clear hf4
  go_wp2_with (first | (go_at_call 209; refine (place4 _ _).mono ?_; rintro e w4 ⟨rfl, rfl⟩) | (go_at_call 192; refine (HFT.out _).mono ?_; rintro e w3 ⟨rfl, ho⟩; replace HMB := hide (HMB.out.only ho (by simp)); replace HROW := hide (HROW.out.only ho (by simp)); replace HX1 := hide (HX1.out.only ho (by simp)); replace HX2 := hide (HX2.out.only ho (by simp)); replace HPB := hide (HPB.out.only ho (by simp)); replace HF := hide (HF.out.only ho (by simp)); replace HO := hide (HO.out.trans ho); clear ho f0 f1 f2 f3 pi_ pf; have f3 := HF.out.cell 3; have pi_ := HPB.out.cell 4; have pf := HPB.out.frozen 4; simp at f3 pi_))
  have ho := (Only.refl [w1.heap.size] w3).setCell (p := ⟨w1.heap.size, 4, none⟩) (.inl (by simp)) (.string x4)
  replace HPB := hide (show Blk (w3.setCell ⟨w1.heap.size, 4, none⟩ (.string x4)) w1.heap.size 29 #[.int .i64 2, .int .u32 (s : Nat), .int .u32 (r : Nat), .int .u64 0, .string x4, .string ⟨#[]⟩, .string ⟨#[]⟩, .string ⟨#[]⟩, .string ⟨#[]⟩, .string ⟨#[]⟩, .string ⟨#[]⟩, .string ⟨#[]⟩, .string ⟨#[]⟩] from (by have h := HPB.out.set_ 4 (.string x4); simp only [List.setIfInBounds_toArray, List.set_cons_zero, List.set_cons_succ] at h; exact h))
  replace HMB := hide (HMB.out.only ho (by have := HD.out; simp; omega))
  replace HROW := hide (HROW.out.only ho (by have := HD.out; simp; omega))
  replace HX1 := hide (HX1.out.only ho (by have := HD.out; simp; omega))
  replace HX2 := hide (HX2.out.only ho (by have := HD.out; simp; omega))
  replace HO := hide ((HO.out.mono (S' := [w1.heap.size]) (by simp)).trans ho |>.mono (S' := []) (by have := HD.out; simp; omega))
  generalize (w3.setCell ⟨w1.heap.size, 4, none⟩ (.string x4)) = v3 at *
  clear f3 mi pi_ pf HFT HF HFL ho
  rw [rounds_succ]
  have a0 := HROW.out.cell 12; have a1 := HROW.out.cell 13; have a2 := HROW.out.cell 14; have a3 := HROW.out.cell 15
  simp [row2C, numC, txtC] at a0 a1 a2 a3
  go_upto_region 8 with fail
  have HF := hide (Blk.new v3 230 #[.int .i64 0, .nilFunc, .nilFunc, .func (.func 214) #[] #[]])
  have HFL := hide (show w1.heap.size < v3.heap.size from HPB.out.lt)
  replace HMB := hide (HMB.out.alloc (.cells #[.int .i64 0, .nilFunc, .nilFunc, .func (.func 214) #[] #[]] 230))
  replace HROW := hide (HROW.out.alloc (.cells #[.int .i64 0, .nilFunc, .nilFunc, .func (.func 214) #[] #[]] 230))
  replace HX1 := hide (HX1.out.alloc (.cells #[.int .i64 0, .nilFunc, .nilFunc, .func (.func 214) #[] #[]] 230))
  replace HX2 := hide (HX2.out.alloc (.cells #[.int .i64 0, .nilFunc, .nilFunc, .func (.func 214) #[] #[]] 230))
  replace HPB := hide (HPB.out.alloc (.cells #[.int .i64 0, .nilFunc, .nilFunc, .func (.func 214) #[] #[]] 230))
  replace HO := hide (HO.out.alloc (.cells #[.int .i64 0, .nilFunc, .nilFunc, .func (.func 214) #[] #[]] 230))
  generalize (v3.alloc (.cells #[.int .i64 0, .nilFunc, .nilFunc, .func (.func 214) #[] #[]] 230)) = u3 at *
  have f0 := HF.out.cell 0; have f1 := HF.out.cell 1; have f2 := HF.out.cell 2; have f3 := HF.out.cell 3; simp at f0 f1 f2 f3
  have mi := HMB.out.cell 7; have pi_ := HPB.out.cell 7; have pf := HPB.out.frozen 7; simp at mi pi_
  clear a0 a1 a2 a3
  have HFT := hide (fun W => fit_any W x7 hx7)
  unfold RetB at HFT
  cases hf7 : fitW x7
  case false =>
    rw [hf7] at HFT
    have HV := hide (show rightM (Mg.mk 2 s r c x4 x5 x6 x7 x8 x9 x10 x11 x12) = false by simp [rightM, textsM, hf7])
    clear hf7
    go_wp2_with (first | (go_at_call 214; refine (place7 _ _).mono ?_; rintro e w4 ⟨rfl, rfl⟩) | (go_at_call 192; refine (HFT.out _).mono ?_; rintro e w3 ⟨rfl, ho⟩; replace HO := hide (HO.out.trans ho); clear ho))
    go_ret2
    exact prop_no HV.out HO.out
  rw [hf7] at HFT
  have HB7 := hide hf7
  clear hf7
  go_wp2_with (first | (go_at_call 214; refine (place7 _ _).mono ?_; rintro e w4 ⟨rfl, rfl⟩) | (go_at_call 192; refine (HFT.out _).mono ?_; rintro e w3 ⟨rfl, ho⟩; replace HMB := hide (HMB.out.only ho (by simp)); replace HROW := hide (HROW.out.only ho (by simp)); replace HX1 := hide (HX1.out.only ho (by simp)); replace HX2 := hide (HX2.out.only ho (by simp)); replace HPB := hide (HPB.out.only ho (by simp)); replace HF := hide (HF.out.only ho (by simp)); replace HO := hide (HO.out.trans ho); clear ho f0 f1 f2 f3 pi_ pf; have f3 := HF.out.cell 3; have pi_ := HPB.out.cell 7; have pf := HPB.out.frozen 7; simp at f3 pi_))
  have ho := (Only.refl [w1.heap.size] w3).setCell (p := ⟨w1.heap.size, 7, none⟩) (.inl (by simp)) (.string x7)
  replace HPB := hide (show Blk (w3.setCell ⟨w1.heap.size, 7, none⟩ (.string x7)) w1.heap.size 29 #[.int .i64 2, .int .u32 (s : Nat), .int .u32 (r : Nat), .int .u64 0, .string x4, .string ⟨#[]⟩, .string ⟨#[]⟩, .string x7, .string ⟨#[]⟩, .string ⟨#[]⟩, .string ⟨#[]⟩, .string ⟨#[]⟩, .string ⟨#[]⟩] from (by have h := HPB.out.set_ 7 (.string x7); simp only [List.setIfInBounds_toArray, List.set_cons_zero, List.set_cons_succ] at h; exact h))
  replace HMB := hide (HMB.out.only ho (by have := HD.out; simp; omega))
  replace HROW := hide (HROW.out.only ho (by have := HD.out; simp; omega))
  replace HX1 := hide (HX1.out.only ho (by have := HD.out; simp; omega))
  replace HX2 := hide (HX2.out.only ho (by have := HD.out; simp; omega))
  replace HO := hide ((HO.out.mono (S' := [w1.heap.size]) (by simp)).trans ho |>.mono (S' := []) (by have := HD.out; simp; omega))
  generalize (w3.setCell ⟨w1.heap.size, 7, none⟩ (.string x7)) = v4 at *
  clear f3 mi pi_ pf HFT HF HFL ho
  rw [rounds_succ]
  have a0 := HROW.out.cell 16; have a1 := HROW.out.cell 17; have a2 := HROW.out.cell 18; have a3 := HROW.out.cell 19
  simp [row2C, numC, txtC] at a0 a1 a2 a3
  go_upto_region 8 with fail
  have HF := hide (Blk.new v4 230 #[.int .i64 0, .nilFunc, .nilFunc, .func (.func 210) #[] #[]])
  have HFL := hide (show w1.heap.size < v4.heap.size from HPB.out.lt)
  replace HMB := hide (HMB.out.alloc (.cells #[.int .i64 0, .nilFunc, .nilFunc, .func (.func 210) #[] #[]] 230))
  replace HROW := hide (HROW.out.alloc (.cells #[.int .i64 0, .nilFunc, .nilFunc, .func (.func 210) #[] #[]] 230))
  replace HX1 := hide (HX1.out.alloc (.cells #[.int .i64 0, .nilFunc, .nilFunc, .func (.func 210) #[] #[]] 230))
  replace HX2 := hide (HX2.out.alloc (.cells #[.int .i64 0, .nilFunc, .nilFunc, .func (.func 210) #[] #[]] 230))
  replace HPB := hide (HPB.out.alloc (.cells #[.int .i64 0, .nilFunc, .nilFunc, .func (.func 210) #[] #[]] 230))
  replace HO := hide (HO.out.alloc (.cells #[.int .i64 0, .nilFunc, .nilFunc, .func (.func 210) #[] #[]] 230))
  generalize (v4.alloc (.cells #[.int .i64 0, .nilFunc, .nilFunc, .func (.func 210) #[] #[]] 230)) = u4 at *
  have f0 := HF.out.cell 0; have f1 := HF.out.cell 1; have f2 := HF.out.cell 2; have f3 := HF.out.cell 3; simp at f0 f1 f2 f3
  have mi := HMB.out.cell 11; have pi_ := HPB.out.cell 11; have pf := HPB.out.frozen 11; simp at mi pi_
  clear a0 a1 a2 a3
  have HFT := hide (fun W => fit_any W x11 hx11)
  unfold RetB at HFT
  cases hf11 : fitW x11
  case false =>
    rw [hf11] at HFT
    have HV := hide (show rightM (Mg.mk 2 s r c x4 x5 x6 x7 x8 x9 x10 x11 x12) = false by simp [rightM, textsM, hf11])
    clear hf11
    go_wp2_with (first | (go_at_call 210; refine (place11 _ _).mono ?_; rintro e w4 ⟨rfl, rfl⟩) | (go_at_call 192; refine (HFT.out _).mono ?_; rintro e w3 ⟨rfl, ho⟩; replace HO := hide (HO.out.trans ho); clear ho))
    go_ret2
    exact prop_no HV.out HO.out
  rw [hf11] at HFT
  have HB11 := hide hf11
  clear hf11
  go_wp2_with (first | (go_at_call 210; refine (place11 _ _).mono ?_; rintro e w4 ⟨rfl, rfl⟩) | (go_at_call 192; refine (HFT.out _).mono ?_; rintro e w3 ⟨rfl, ho⟩; replace HMB := hide (HMB.out.only ho (by simp)); replace HROW := hide (HROW.out.only ho (by simp)); replace HX1 := hide (HX1.out.only ho (by simp)); replace HX2 := hide (HX2.out.only ho (by simp)); replace HPB := hide (HPB.out.only ho (by simp)); replace HF := hide (HF.out.only ho (by simp)); replace HO := hide (HO.out.trans ho); clear ho f0 f1 f2 f3 pi_ pf; have f3 := HF.out.cell 3; have pi_ := HPB.out.cell 11; have pf := HPB.out.frozen 11; simp at f3 pi_))
  have ho := (Only.refl [w1.heap.size] w3).setCell (p := ⟨w1.heap.size, 11, none⟩) (.inl (by simp)) (.string x11)
  replace HPB := hide (show Blk (w3.setCell ⟨w1.heap.size, 11, none⟩ (.string x11)) w1.heap.size 29 #[.int .i64 2, .int .u32 (s : Nat), .int .u32 (r : Nat), .int .u64 0, .string x4, .string ⟨#[]⟩, .string ⟨#[]⟩, .string x7, .string ⟨#[]⟩, .string ⟨#[]⟩, .string ⟨#[]⟩, .string x11, .string ⟨#[]⟩] from (by have h := HPB.out.set_ 11 (.string x11); simp only [List.setIfInBounds_toArray, List.set_cons_zero, List.set_cons_succ] at h; exact h))
  replace HMB := hide (HMB.out.only ho (by have := HD.out; simp; omega))
  replace HROW := hide (HROW.out.only ho (by have := HD.out; simp; omega))
  replace HX1 := hide (HX1.out.only ho (by have := HD.out; simp; omega))
  replace HX2 := hide (HX2.out.only ho (by have := HD.out; simp; omega))
  replace HO := hide ((HO.out.mono (S' := [w1.heap.size]) (by simp)).trans ho |>.mono (S' := []) (by have := HD.out; simp; omega))
  generalize (w3.setCell ⟨w1.heap.size, 11, none⟩ (.string x11)) = v5 at *
  clear f3 mi pi_ pf HFT HF HFL ho
  rw [rounds_succ]
  have a0 := HROW.out.cell 20; have a1 := HROW.out.cell 21; have a2 := HROW.out.cell 22; have a3 := HROW.out.cell 23
  simp [row2C, numC, txtC] at a0 a1 a2 a3
  go_upto_region 8 with fail
  have HF := hide (Blk.new v5 230 #[.int .i64 0, .nilFunc, .nilFunc, .func (.func 211) #[] #[]])
  have HFL := hide (show w1.heap.size < v5.heap.size from HPB.out.lt)
  replace HMB := hide (HMB.out.alloc (.cells #[.int .i64 0, .nilFunc, .nilFunc, .func (.func 211) #[] #[]] 230))
  replace HROW := hide (HROW.out.alloc (.cells #[.int .i64 0, .nilFunc, .nilFunc, .func (.func 211) #[] #[]] 230))
  replace HX1 := hide (HX1.out.alloc (.cells #[.int .i64 0, .nilFunc, .nilFunc, .func (.func 211) #[] #[]] 230))
  replace HX2 := hide (HX2.out.alloc (.cells #[.int .i64 0, .nilFunc, .nilFunc, .func (.func 211) #[] #[]] 230))
  replace HPB := hide (HPB.out.alloc (.cells #[.int .i64 0, .nilFunc, .nilFunc, .func (.func 211) #[] #[]] 230))
  replace HO := hide (HO.out.alloc (.cells #[.int .i64 0, .nilFunc, .nilFunc, .func (.func 211) #[] #[]] 230))
  generalize (v5.alloc (.cells #[.int .i64 0, .nilFunc, .nilFunc, .func (.func 211) #[] #[]] 230)) = u5 at *
  have f0 := HF.out.cell 0; have f1 := HF.out.cell 1; have f2 := HF.out.cell 2; have f3 := HF.out.cell 3; simp at f0 f1 f2 f3
  have mi := HMB.out.cell 12; have pi_ := HPB.out.cell 12; have pf := HPB.out.frozen 12; simp at mi pi_
  clear a0 a1 a2 a3
  have HFT := hide (fun W => fit_any W x12 hx12)
  unfold RetB at HFT
  cases hf12 : fitW x12
  case false =>
    rw [hf12] at HFT
    have HV := hide (show rightM (Mg.mk 2 s r c x4 x5 x6 x7 x8 x9 x10 x11 x12) = false by simp [rightM, textsM, hf12])
    clear hf12
    go_wp2_with (first | (go_at_call 211; refine (place12 _ _).mono ?_; rintro e w4 ⟨rfl, rfl⟩) | (go_at_call 192; refine (HFT.out _).mono ?_; rintro e w3 ⟨rfl, ho⟩; replace HO := hide (HO.out.trans ho); clear ho))
    go_ret2
    exact prop_no HV.out HO.out
  rw [hf12] at HFT
  have HB12 := hide hf12
  clear hf12
  go_wp2_with (first | (go_at_call 211; refine (place12 _ _).mono ?_; rintro e w4 ⟨rfl, rfl⟩) | (go_at_call 192; refine (HFT.out _).mono ?_; rintro e w3 ⟨rfl, ho⟩; replace HMB := hide (HMB.out.only ho (by simp)); replace HROW := hide (HROW.out.only ho (by simp)); replace HX1 := hide (HX1.out.only ho (by simp)); replace HX2 := hide (HX2.out.only ho (by simp)); replace HPB := hide (HPB.out.only ho (by simp)); replace HF := hide (HF.out.only ho (by simp)); replace HO := hide (HO.out.trans ho); clear ho f0 f1 f2 f3 pi_ pf; have f3 := HF.out.cell 3; have pi_ := HPB.out.cell 12; have pf := HPB.out.frozen 12; simp at f3 pi_))
  have ho := (Only.refl [w1.heap.size] w3).setCell (p := ⟨w1.heap.size, 12, none⟩) (.inl (by simp)) (.string x12)
  replace HPB := hide (show Blk (w3.setCell ⟨w1.heap.size, 12, none⟩ (.string x12)) w1.heap.size 29 #[.int .i64 2, .int .u32 (s : Nat), .int .u32 (r : Nat), .int .u64 0, .string x4, .string ⟨#[]⟩, .string ⟨#[]⟩, .string x7, .string ⟨#[]⟩, .string ⟨#[]⟩, .string ⟨#[]⟩, .string x11, .string x12] from (by have h := HPB.out.set_ 12 (.string x12); simp only [List.setIfInBounds_toArray, List.set_cons_zero, List.set_cons_succ] at h; exact h))
  replace HMB := hide (HMB.out.only ho (by have := HD.out; simp; omega))
  replace HROW := hide (HROW.out.only ho (by have := HD.out; simp; omega))
  replace HX1 := hide (HX1.out.only ho (by have := HD.out; simp; omega))
  replace HX2 := hide (HX2.out.only ho (by have := HD.out; simp; omega))
  replace HO := hide ((HO.out.mono (S' := [w1.heap.size]) (by simp)).trans ho |>.mono (S' := []) (by have := HD.out; simp; omega))
  generalize (w3.setCell ⟨w1.heap.size, 12, none⟩ (.string x12)) = v6 at *
  clear f3 mi pi_ pf HFT HF HFL ho
  rw [rounds_succ]
  have heq : ∀ W : World, (binOp .eql 29 (.agg #[.int .i64 2, .int .u32 (s : Nat), .int .u32 (r : Nat), .int .u64 0, .string x4, .string ⟨#[]⟩, .string ⟨#[]⟩, .string x7, .string ⟨#[]⟩, .string ⟨#[]⟩, .string ⟨#[]⟩, .string x11, .string x12]) (.agg #[.int .i64 2, .int .u32 (s : Nat), .int .u32 (r : Nat), .int .u64 (c : Nat), .string x4, .string x5, .string x6, .string x7, .string x8, .string x9, .string x10, .string x11, .string x12])).run Tryz.prog W = .ok (.bool (eqM (onlyM (Mg.mk 2 s r c x4 x5 x6 x7 x8 x9 x10 x11 x12)) (Mg.mk 2 s r c x4 x5 x6 x7 x8 x9 x10 x11 x12))) W := fun W => msg_eql (onlyM (Mg.mk 2 s r c x4 x5 x6 x7 x8 x9 x10 x11 x12)) (Mg.mk 2 s r c x4 x5 x6 x7 x8 x9 x10 x11 x12) W
  have HV := hide (show rightM (Mg.mk 2 s r c x4 x5 x6 x7 x8 x9 x10 x11 x12) = eqM (onlyM (Mg.mk 2 s r c x4 x5 x6 x7 x8 x9 x10 x11 x12)) (Mg.mk 2 s r c x4 x5 x6 x7 x8 x9 x10 x11 x12) by simp [rightM, textsM, HB4.out, HB7.out, HB11.out, HB12.out])
  generalize eqM (onlyM (Mg.mk 2 s r c x4 x5 x6 x7 x8 x9 x10 x11 x12)) (Mg.mk 2 s r c x4 x5 x6 x7 x8 x9 x10 x11 x12) = B at *
  have m0 := HMB.out.cell 0; have m1 := HMB.out.cell 1; have m2 := HMB.out.cell 2; have m3 := HMB.out.cell 3; have m4 := HMB.out.cell 4; have m5 := HMB.out.cell 5; have m6 := HMB.out.cell 6; have m7 := HMB.out.cell 7; have m8 := HMB.out.cell 8; have m9 := HMB.out.cell 9; have m10 := HMB.out.cell 10; have m11 := HMB.out.cell 11; have m12 := HMB.out.cell 12; simp at m0 m1 m2 m3 m4 m5 m6 m7 m8 m9 m10 m11 m12
  have p0 := HPB.out.cell 0; have p1 := HPB.out.cell 1; have p2 := HPB.out.cell 2; have p3 := HPB.out.cell 3; have p4 := HPB.out.cell 4; have p5 := HPB.out.cell 5; have p6 := HPB.out.cell 6; have p7 := HPB.out.cell 7; have p8 := HPB.out.cell 8; have p9 := HPB.out.cell 9; have p10 := HPB.out.cell 10; have p11 := HPB.out.cell 11; have p12 := HPB.out.cell 12; simp at p0 p1 p2 p3 p4 p5 p6 p7 p8 p9 p10 p11 p12
  go_wp2_with fail
  refine wp_region_still_lit (by kernel_rfl) (by kernel_rfl) ?_
  repeat still_step
  refine wpStill_nil ?_
  go_wp2_with fail
  go_ret2
  exact prop_is (b1 := b1) (b2 := b2) HV.out (by have := HD.out; omega) (by have := HD.out; omega) (by have := HD.out; omega) HROW.out.drew HX1.out.drew HX2.out.drew HO.out.drew
end
end Go.Proofs.YtcokjoidpnfjhaaGreatDoor

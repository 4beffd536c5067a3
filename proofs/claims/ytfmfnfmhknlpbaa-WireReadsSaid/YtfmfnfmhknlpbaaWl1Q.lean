/-
  wire.Print of the kind 1: by walking. No condition but the sizes.
-/
import Derived.Test.YtfmfnfmhknlpbaaZE
import Derived.Test.YtfmfnfmhknlpbaaWj1Q
import Derived.StillTailTactics
namespace Go.Proofs.Ytfmfnfmhknlpbaa
open Go.RowKit Go.Deep

set_option maxRecDepth 100000 in
set_option maxHeartbeats 12800000 in
theorem Print_1 (w : World) (s r c : Nat) (x4 x5 x6 x7 x8 x9 x10 x11 x12 : ByteArray) (hF : (Mg.mk 1 s r c x4 x5 x6 x7 x8 x9 x10 x11 x12).Fine) :
    Calls Try.prog 9 #[.agg #[.int .i64 1, .int .u32 (s : Nat), .int .u32 (r : Nat), .int .u64 (c : Nat), .string x4, .string x5, .string x6, .string x7, .string x8, .string x9, .string x10, .string x11, .string x12]] w (PrintPost (Mg.mk 1 s r c x4 x5 x6 x7 x8 x9 x10 x11 x12) w) := by
  have hst := fun (W : World) (a : Addr) (fn : Fn) (c : Array Value) => (run_store Try.prog W a (.func fn #[] c) .plain rfl : (store a (.func fn #[] c)).run Try.prog W = stored Try.prog W a (.func fn #[] c) .plain)
  have hsn := fun (W : World) (a : Addr) => (run_store Try.prog W a .nilFunc .plain rfl : (store a .nilFunc).run Try.prog W = stored Try.prog W a .nilFunc .plain)
  have HP := hide (fun W => proper_1 W s r c x4 x5 x6 x7 x8 x9 x10 x11 x12 hF)
  unfold PropPost at HP
  obtain ⟨hs, hr, hc, hx4, hx5, hx6, hx7, hx8, hx9, hx10, hx11, hx12⟩ := hF
  simp only at hs hr hc hx4 hx5 hx6 hx7 hx8 hx9 hx10 hx11 hx12
  have HMB := hide (Blk.new w 27 #[.int .i64 1, .int .u32 (s : Nat), .int .u32 (r : Nat), .int .u64 (c : Nat), .string x4, .string x5, .string x6, .string x7, .string x8, .string x9, .string x10, .string x11, .string x12])
  have HO := hide ((Only.refl [] w).alloc (.cells #[.int .i64 1, .int .u32 (s : Nat), .int .u32 (r : Nat), .int .u64 (c : Nat), .string x4, .string x5, .string x6, .string x7, .string x8, .string x9, .string x10, .string x11, .string x12] 27))
  have m0 := HMB.out.cell 0; have m1 := HMB.out.cell 1; have m2 := HMB.out.cell 2; have m3 := HMB.out.cell 3; have m4 := HMB.out.cell 4; have m5 := HMB.out.cell 5; have m6 := HMB.out.cell 6; have m7 := HMB.out.cell 7; have m8 := HMB.out.cell 8; have m9 := HMB.out.cell 9; have m10 := HMB.out.cell 10; have m11 := HMB.out.cell 11; have m12 := HMB.out.cell 12; simp at m0 m1 m2 m3 m4 m5 m6 m7 m8 m9 m10 m11 m12
  cases hB : rightM (Mg.mk 1 s r c x4 x5 x6 x7 x8 x9 x10 x11 x12)
  case false =>
    rw [hB] at HP
    have HV := hide hB
    clear hB
    go_enter Try.func9, Try.ntmps9
    go_wp2_with (go_at_call 33; refine (HP.out _).mono ?_; rintro e w1 ⟨fv, rfl, ho, _⟩; replace HO := hide (HO.out.trans ho); clear ho)
    go_ret2
    exact print_no HV.out HO.out
  rw [hB] at HP
  have HV := hide hB
  have hz4 : x4.size ≤ 65535 := fit_size (by have h := hB; simp [rightM, textsM] at h; simp [h])
  have hz5 : x5.size ≤ 65535 := fit_size (by have h := hB; simp [rightM, textsM] at h; simp [h])
  have hz6 : x6.size ≤ 65535 := fit_size (by have h := hB; simp [rightM, textsM] at h; simp [h])
  have hz11 : x11.size ≤ 65535 := fit_size (by have h := hB; simp [rightM, textsM] at h; simp [h])
  have hz12 : x12.size ≤ 65535 := fit_size (by have h := hB; simp [rightM, textsM] at h; simp [h])
  clear hB
  obtain ⟨i0, hi, hz0, hz1, hz2⟩ := info_parts (show (Try.prog.info? 5).map (fun i => (i.zero, i.size, i.bytes)) = some (some (.int .u8 0), 1, 1) by kernel_rfl)
  go_enter Try.func9, Try.ntmps9
  go_upto_region 6 with (go_at_call 33; refine (HP.out _).mono ?_; rintro e w1 ⟨fv, rfl, ho, hz⟩; obtain ⟨g, b1, b2, rfl, hg, hb1, hb2, hrow, hx1, hx2⟩ := hz (by trivial); rw [World.size_alloc] at hg hb1 hb2; have HROW := hide hrow; have HX1 := hide hx1; have HX2 := hide hx2; have HGR := hide hg; have HB1 := hide hb1; have HB2 := hide hb2; replace HMB := hide (HMB.out.only ho (by simp)); replace HO := hide (HO.out.trans ho); clear hg hb1 hb2 hrow hx1 hx2 ho hz m0 m1 m2 m3 m4 m5 m6 m7 m8 m9 m10 m11 m12; have m0 := HMB.out.cell 0; simp at m0)
  have HD := hide (show w.heap.size < w1.heap.size ∧ g < w1.heap.size ∧ b1 < w1.heap.size ∧ b2 < w1.heap.size from ⟨HMB.out.lt, HROW.out.lt, HX1.out.lt, HX2.out.lt⟩)
  have HOW := hide (show (w1.alloc (.cells #[.int .u8 1, .int .u8 0, .int .u8 0, .int .u8 0] 5)).ownsRow w1.heap.size 5 1 (.slice (some ⟨w1.heap.size, 0, none⟩) 4 4) 4 (ints .u8 (byts [1, 0, 0, 0])) from World.ownsRow_lit w1 #[.int .u8 1, .int .u8 0, .int .u8 0, .int .u8 0] 4 (Nat.le_refl _) (by unfold maxLen; omega) rfl)
  replace HMB := hide (HMB.out.alloc (.cells #[.int .u8 1, .int .u8 0, .int .u8 0, .int .u8 0] 5))
  replace HROW := hide (HROW.out.alloc (.cells #[.int .u8 1, .int .u8 0, .int .u8 0, .int .u8 0] 5))
  replace HX1 := hide (HX1.out.alloc (.cells #[.int .u8 1, .int .u8 0, .int .u8 0, .int .u8 0] 5))
  replace HX2 := hide (HX2.out.alloc (.cells #[.int .u8 1, .int .u8 0, .int .u8 0, .int .u8 0] 5))
  replace HO := hide (HO.out.alloc (.cells #[.int .u8 1, .int .u8 0, .int .u8 0, .int .u8 0] 5))
  have HBV := hide (show w1.heap.size ≤ (w1.alloc (.cells #[.int .u8 1, .int .u8 0, .int .u8 0, .int .u8 0] 5)).heap.size by simp)
  generalize (w1.alloc (.cells #[.int .u8 1, .int .u8 0, .int .u8 0, .int .u8 0] 5)) = v0 at *
  generalize w1.heap.size = B0 at *
  clear HGR HB1 HB2 m0
  refine wp_loop_rounds 7 ?_
  rw [rounds_succ]
  have a0 := HROW.out.cell 0; have a1 := HROW.out.cell 1; have a2 := HROW.out.cell 2; have a3 := HROW.out.cell 3
  simp [row1C, numC, txtC, cntC] at a0 a1 a2 a3
  go_upto_region 8 with fail
  have HF := hide (Blk.new v0 63 #[.int .i64 4, .func (.func 70) #[] #[.pointer (some ⟨b1, 0, none⟩)], .func (.func 71) #[] #[.pointer (some ⟨b1, 0, none⟩)], .nilFunc])
  replace HBV := hide (show B0 ≤ (v0.alloc (.cells #[.int .i64 4, .func (.func 70) #[] #[.pointer (some ⟨b1, 0, none⟩)], .func (.func 71) #[] #[.pointer (some ⟨b1, 0, none⟩)], .nilFunc] 63)).heap.size by have := HBV.out; simp; omega)
  replace HMB := hide (HMB.out.alloc (.cells #[.int .i64 4, .func (.func 70) #[] #[.pointer (some ⟨b1, 0, none⟩)], .func (.func 71) #[] #[.pointer (some ⟨b1, 0, none⟩)], .nilFunc] 63))
  replace HROW := hide (HROW.out.alloc (.cells #[.int .i64 4, .func (.func 70) #[] #[.pointer (some ⟨b1, 0, none⟩)], .func (.func 71) #[] #[.pointer (some ⟨b1, 0, none⟩)], .nilFunc] 63))
  replace HX1 := hide (HX1.out.alloc (.cells #[.int .i64 4, .func (.func 70) #[] #[.pointer (some ⟨b1, 0, none⟩)], .func (.func 71) #[] #[.pointer (some ⟨b1, 0, none⟩)], .nilFunc] 63))
  replace HX2 := hide (HX2.out.alloc (.cells #[.int .i64 4, .func (.func 70) #[] #[.pointer (some ⟨b1, 0, none⟩)], .func (.func 71) #[] #[.pointer (some ⟨b1, 0, none⟩)], .nilFunc] 63))
  replace HO := hide (HO.out.alloc (.cells #[.int .i64 4, .func (.func 70) #[] #[.pointer (some ⟨b1, 0, none⟩)], .func (.func 71) #[] #[.pointer (some ⟨b1, 0, none⟩)], .nilFunc] 63))
  replace HOW := hide (World.ownsRow.alloc HOW.out (.cells #[.int .i64 4, .func (.func 70) #[] #[.pointer (some ⟨b1, 0, none⟩)], .func (.func 71) #[] #[.pointer (some ⟨b1, 0, none⟩)], .nilFunc] 63))
  generalize (v0.alloc (.cells #[.int .i64 4, .func (.func 70) #[] #[.pointer (some ⟨b1, 0, none⟩)], .func (.func 71) #[] #[.pointer (some ⟨b1, 0, none⟩)], .nilFunc] 63)) = u0 at *
  have f0 := HF.out.cell 0; have f1 := HF.out.cell 1; have f2 := HF.out.cell 2; have f3 := HF.out.cell 3; simp at f0 f1 f2 f3
  have mi := HMB.out.cell 1; simp at mi
  clear a0 a1 a2 a3
  have x0 := HX1.out.cell 0; simp at x0
  have HG := hide ((numget1 w.heap.size b1 s u0.drew x0 mi hs).mono fun e w' h => (⟨h.1, h.2.symm⟩ : _ ∧ w' = u0.drew))
  have HLW := hide (low_any u0.drew B0 s 4 (4) _ _ (by omega) (by omega) (by omega) HBV.out HOW.out)
  go_wp2_with fail
  refine wp_region_still_tail 6 (by kernel_rfl) (by kernel_rfl) ?_
  simp only [List.take_succ_cons, List.take_zero, List.drop_succ_cons, List.drop_zero]
  repeat still_step
  still_call HG.out
  repeat still_step
  refine wpStill_nil ?_
  change wpList _ _ _ _ _ u0.drew
  go_wp2_with (go_at_call 34; refine HLW.out.mono ?_; rintro e v1 ⟨vv, rfl, hown, hbel⟩; replace HOW := hide hown; replace HMB := hide (HMB.out.drew.below hbel (by have := HD.out; omega)); replace HROW := hide (HROW.out.drew.below hbel (by have := HD.out; omega)); replace HX1 := hide (HX1.out.drew.below hbel (by have := HD.out; omega)); replace HX2 := hide (HX2.out.drew.below hbel (by have := HD.out; omega)); replace HO := hide (only_below HO.out.drew hbel (by have := HD.out; omega)); replace HBV := hide (Nat.le_trans HBV.out hbel.size); clear hown hbel)
  clear f0 f1 f2 f3 mi HG HF HLW x0
  rw [rounds_succ]
  have a0 := HROW.out.cell 4; have a1 := HROW.out.cell 5; have a2 := HROW.out.cell 6; have a3 := HROW.out.cell 7
  simp [row1C, numC, txtC, cntC] at a0 a1 a2 a3
  go_upto_region 8 with fail
  have HF := hide (Blk.new v1 63 #[.int .i64 0, .nilFunc, .nilFunc, .func (.func 49) #[] #[]])
  replace HBV := hide (show B0 ≤ (v1.alloc (.cells #[.int .i64 0, .nilFunc, .nilFunc, .func (.func 49) #[] #[]] 63)).heap.size by have := HBV.out; simp; omega)
  replace HMB := hide (HMB.out.alloc (.cells #[.int .i64 0, .nilFunc, .nilFunc, .func (.func 49) #[] #[]] 63))
  replace HROW := hide (HROW.out.alloc (.cells #[.int .i64 0, .nilFunc, .nilFunc, .func (.func 49) #[] #[]] 63))
  replace HX1 := hide (HX1.out.alloc (.cells #[.int .i64 0, .nilFunc, .nilFunc, .func (.func 49) #[] #[]] 63))
  replace HX2 := hide (HX2.out.alloc (.cells #[.int .i64 0, .nilFunc, .nilFunc, .func (.func 49) #[] #[]] 63))
  replace HO := hide (HO.out.alloc (.cells #[.int .i64 0, .nilFunc, .nilFunc, .func (.func 49) #[] #[]] 63))
  replace HOW := hide (World.ownsRow.alloc HOW.out (.cells #[.int .i64 0, .nilFunc, .nilFunc, .func (.func 49) #[] #[]] 63))
  generalize (v1.alloc (.cells #[.int .i64 0, .nilFunc, .nilFunc, .func (.func 49) #[] #[]] 63)) = u1 at *
  have f0 := HF.out.cell 0; have f1 := HF.out.cell 1; have f2 := HF.out.cell 2; have f3 := HF.out.cell 3; simp at f0 f1 f2 f3
  have mi := HMB.out.cell 4; simp at mi
  clear a0 a1 a2 a3
  obtain ⟨A1, c1, rfl, _, _⟩ := own_form HOW.out
  have hw : IntKind.u64.wrap (x4.size : Int) = x4.size := by rw [IntKind.wrap_u64]; omega
  have HLW := hide (low_any u1 B0 x4.size 2 (4 + 4) _ _ (by omega) (by omega) (by omega) HBV.out HOW.out)
  go_upto_region 12 with (first | (go_at_call 49; refine (place4 _ _).mono ?_; rintro e w4 ⟨rfl, rfl⟩) | (go_at_call 34; refine HLW.out.mono ?_; rintro e w5 ⟨vv, rfl, hown, hbel⟩; replace HOW := hide hown; replace HMB := hide (HMB.out.below hbel (by have := HD.out; omega)); replace HROW := hide (HROW.out.below hbel (by have := HD.out; omega)); replace HX1 := hide (HX1.out.below hbel (by have := HD.out; omega)); replace HX2 := hide (HX2.out.below hbel (by have := HD.out; omega)); replace HO := hide (only_below HO.out hbel (by have := HD.out; omega)); replace HBV := hide (Nat.le_trans HBV.out hbel.size); clear hown hbel))
  obtain ⟨Aq, cq, rfl, _, _⟩ := own_form HOW.out
  go_wp2_with (at_builtin; refine Lib.wpList_append_own_string _ rfl _ _ 22 9 rfl B0 5 i0 Try.underlying22 Try.underlying9 hi hz0 hz1 hz2 _ (4 + 4 + 2) _ rfl HOW.out x4 rfl (by unfold maxLen; omega) (by omega) HBV.out ?_; intro vv v2 hown1 hg1 _; have hbel := below_row hg1 (fun jj hjj => own_block_ge HOW.out hjj) HBV.out; rw [str_cells, ← ints_append, ← byts_append] at hown1; replace HOW := hide hown1; replace HMB := hide (HMB.out.below hbel (by have := HD.out; omega)); replace HROW := hide (HROW.out.below hbel (by have := HD.out; omega)); replace HX1 := hide (HX1.out.below hbel (by have := HD.out; omega)); replace HX2 := hide (HX2.out.below hbel (by have := HD.out; omega)); replace HO := hide (only_below HO.out hbel (by have := HD.out; omega)); replace HBV := hide (Nat.le_trans HBV.out hbel.size); clear hown1 hg1 hbel)
  clear f0 f1 f2 f3 mi HF HLW hw
  rw [rounds_succ]
  have a0 := HROW.out.cell 8; have a1 := HROW.out.cell 9; have a2 := HROW.out.cell 10; have a3 := HROW.out.cell 11
  simp [row1C, numC, txtC, cntC] at a0 a1 a2 a3
  go_upto_region 8 with fail
  have HF := hide (Blk.new v2 63 #[.int .i64 0, .nilFunc, .nilFunc, .func (.func 52) #[] #[]])
  replace HBV := hide (show B0 ≤ (v2.alloc (.cells #[.int .i64 0, .nilFunc, .nilFunc, .func (.func 52) #[] #[]] 63)).heap.size by have := HBV.out; simp; omega)
  replace HMB := hide (HMB.out.alloc (.cells #[.int .i64 0, .nilFunc, .nilFunc, .func (.func 52) #[] #[]] 63))
  replace HROW := hide (HROW.out.alloc (.cells #[.int .i64 0, .nilFunc, .nilFunc, .func (.func 52) #[] #[]] 63))
  replace HX1 := hide (HX1.out.alloc (.cells #[.int .i64 0, .nilFunc, .nilFunc, .func (.func 52) #[] #[]] 63))
  replace HX2 := hide (HX2.out.alloc (.cells #[.int .i64 0, .nilFunc, .nilFunc, .func (.func 52) #[] #[]] 63))
  replace HO := hide (HO.out.alloc (.cells #[.int .i64 0, .nilFunc, .nilFunc, .func (.func 52) #[] #[]] 63))
  replace HOW := hide (World.ownsRow.alloc HOW.out (.cells #[.int .i64 0, .nilFunc, .nilFunc, .func (.func 52) #[] #[]] 63))
  generalize (v2.alloc (.cells #[.int .i64 0, .nilFunc, .nilFunc, .func (.func 52) #[] #[]] 63)) = u2 at *
  have f0 := HF.out.cell 0; have f1 := HF.out.cell 1; have f2 := HF.out.cell 2; have f3 := HF.out.cell 3; simp at f0 f1 f2 f3
  have mi := HMB.out.cell 5; simp at mi
  clear a0 a1 a2 a3
  obtain ⟨A2, c2, rfl, _, _⟩ := own_form HOW.out
  have hw : IntKind.u64.wrap (x5.size : Int) = x5.size := by rw [IntKind.wrap_u64]; omega
  have HLW := hide (low_any u2 B0 x5.size 2 (4 + 4 + 2 + x4.size) _ _ (by omega) (by omega) (by omega) HBV.out HOW.out)
  go_upto_region 12 with (first | (go_at_call 52; refine (place5 _ _).mono ?_; rintro e w4 ⟨rfl, rfl⟩) | (go_at_call 34; refine HLW.out.mono ?_; rintro e w5 ⟨vv, rfl, hown, hbel⟩; replace HOW := hide hown; replace HMB := hide (HMB.out.below hbel (by have := HD.out; omega)); replace HROW := hide (HROW.out.below hbel (by have := HD.out; omega)); replace HX1 := hide (HX1.out.below hbel (by have := HD.out; omega)); replace HX2 := hide (HX2.out.below hbel (by have := HD.out; omega)); replace HO := hide (only_below HO.out hbel (by have := HD.out; omega)); replace HBV := hide (Nat.le_trans HBV.out hbel.size); clear hown hbel))
  obtain ⟨Aq, cq, rfl, _, _⟩ := own_form HOW.out
  go_wp2_with (at_builtin; refine Lib.wpList_append_own_string _ rfl _ _ 22 9 rfl B0 5 i0 Try.underlying22 Try.underlying9 hi hz0 hz1 hz2 _ (4 + 4 + 2 + x4.size + 2) _ rfl HOW.out x5 rfl (by unfold maxLen; omega) (by omega) HBV.out ?_; intro vv v3 hown1 hg1 _; have hbel := below_row hg1 (fun jj hjj => own_block_ge HOW.out hjj) HBV.out; rw [str_cells, ← ints_append, ← byts_append] at hown1; replace HOW := hide hown1; replace HMB := hide (HMB.out.below hbel (by have := HD.out; omega)); replace HROW := hide (HROW.out.below hbel (by have := HD.out; omega)); replace HX1 := hide (HX1.out.below hbel (by have := HD.out; omega)); replace HX2 := hide (HX2.out.below hbel (by have := HD.out; omega)); replace HO := hide (only_below HO.out hbel (by have := HD.out; omega)); replace HBV := hide (Nat.le_trans HBV.out hbel.size); clear hown1 hg1 hbel)
  clear f0 f1 f2 f3 mi HF HLW hw
  rw [rounds_succ]
  have a0 := HROW.out.cell 12; have a1 := HROW.out.cell 13; have a2 := HROW.out.cell 14; have a3 := HROW.out.cell 15
  simp [row1C, numC, txtC, cntC] at a0 a1 a2 a3
  go_upto_region 8 with fail
  have HF := hide (Blk.new v3 63 #[.int .i64 0, .nilFunc, .nilFunc, .func (.func 53) #[] #[]])
  replace HBV := hide (show B0 ≤ (v3.alloc (.cells #[.int .i64 0, .nilFunc, .nilFunc, .func (.func 53) #[] #[]] 63)).heap.size by have := HBV.out; simp; omega)
  replace HMB := hide (HMB.out.alloc (.cells #[.int .i64 0, .nilFunc, .nilFunc, .func (.func 53) #[] #[]] 63))
  replace HROW := hide (HROW.out.alloc (.cells #[.int .i64 0, .nilFunc, .nilFunc, .func (.func 53) #[] #[]] 63))
  replace HX1 := hide (HX1.out.alloc (.cells #[.int .i64 0, .nilFunc, .nilFunc, .func (.func 53) #[] #[]] 63))
  replace HX2 := hide (HX2.out.alloc (.cells #[.int .i64 0, .nilFunc, .nilFunc, .func (.func 53) #[] #[]] 63))
  replace HO := hide (HO.out.alloc (.cells #[.int .i64 0, .nilFunc, .nilFunc, .func (.func 53) #[] #[]] 63))
  replace HOW := hide (World.ownsRow.alloc HOW.out (.cells #[.int .i64 0, .nilFunc, .nilFunc, .func (.func 53) #[] #[]] 63))
  generalize (v3.alloc (.cells #[.int .i64 0, .nilFunc, .nilFunc, .func (.func 53) #[] #[]] 63)) = u3 at *
  have f0 := HF.out.cell 0; have f1 := HF.out.cell 1; have f2 := HF.out.cell 2; have f3 := HF.out.cell 3; simp at f0 f1 f2 f3
  have mi := HMB.out.cell 6; simp at mi
  clear a0 a1 a2 a3
  obtain ⟨A3, c3, rfl, _, _⟩ := own_form HOW.out
  have hw : IntKind.u64.wrap (x6.size : Int) = x6.size := by rw [IntKind.wrap_u64]; omega
  have HLW := hide (low_any u3 B0 x6.size 2 (4 + 4 + 2 + x4.size + 2 + x5.size) _ _ (by omega) (by omega) (by omega) HBV.out HOW.out)
  go_upto_region 12 with (first | (go_at_call 53; refine (place6 _ _).mono ?_; rintro e w4 ⟨rfl, rfl⟩) | (go_at_call 34; refine HLW.out.mono ?_; rintro e w5 ⟨vv, rfl, hown, hbel⟩; replace HOW := hide hown; replace HMB := hide (HMB.out.below hbel (by have := HD.out; omega)); replace HROW := hide (HROW.out.below hbel (by have := HD.out; omega)); replace HX1 := hide (HX1.out.below hbel (by have := HD.out; omega)); replace HX2 := hide (HX2.out.below hbel (by have := HD.out; omega)); replace HO := hide (only_below HO.out hbel (by have := HD.out; omega)); replace HBV := hide (Nat.le_trans HBV.out hbel.size); clear hown hbel))
  obtain ⟨Aq, cq, rfl, _, _⟩ := own_form HOW.out
  go_wp2_with (at_builtin; refine Lib.wpList_append_own_string _ rfl _ _ 22 9 rfl B0 5 i0 Try.underlying22 Try.underlying9 hi hz0 hz1 hz2 _ (4 + 4 + 2 + x4.size + 2 + x5.size + 2) _ rfl HOW.out x6 rfl (by unfold maxLen; omega) (by omega) HBV.out ?_; intro vv v4 hown1 hg1 _; have hbel := below_row hg1 (fun jj hjj => own_block_ge HOW.out hjj) HBV.out; rw [str_cells, ← ints_append, ← byts_append] at hown1; replace HOW := hide hown1; replace HMB := hide (HMB.out.below hbel (by have := HD.out; omega)); replace HROW := hide (HROW.out.below hbel (by have := HD.out; omega)); replace HX1 := hide (HX1.out.below hbel (by have := HD.out; omega)); replace HX2 := hide (HX2.out.below hbel (by have := HD.out; omega)); replace HO := hide (only_below HO.out hbel (by have := HD.out; omega)); replace HBV := hide (Nat.le_trans HBV.out hbel.size); clear hown1 hg1 hbel)
  clear f0 f1 f2 f3 mi HF HLW hw
  rw [rounds_succ]
  have a0 := HROW.out.cell 16; have a1 := HROW.out.cell 17; have a2 := HROW.out.cell 18; have a3 := HROW.out.cell 19
  simp [row1C, numC, txtC, cntC] at a0 a1 a2 a3
  go_upto_region 8 with fail
  have HF := hide (Blk.new v4 63 #[.int .i64 0, .nilFunc, .nilFunc, .func (.func 50) #[] #[]])
  replace HBV := hide (show B0 ≤ (v4.alloc (.cells #[.int .i64 0, .nilFunc, .nilFunc, .func (.func 50) #[] #[]] 63)).heap.size by have := HBV.out; simp; omega)
  replace HMB := hide (HMB.out.alloc (.cells #[.int .i64 0, .nilFunc, .nilFunc, .func (.func 50) #[] #[]] 63))
  replace HROW := hide (HROW.out.alloc (.cells #[.int .i64 0, .nilFunc, .nilFunc, .func (.func 50) #[] #[]] 63))
  replace HX1 := hide (HX1.out.alloc (.cells #[.int .i64 0, .nilFunc, .nilFunc, .func (.func 50) #[] #[]] 63))
  replace HX2 := hide (HX2.out.alloc (.cells #[.int .i64 0, .nilFunc, .nilFunc, .func (.func 50) #[] #[]] 63))
  replace HO := hide (HO.out.alloc (.cells #[.int .i64 0, .nilFunc, .nilFunc, .func (.func 50) #[] #[]] 63))
  replace HOW := hide (World.ownsRow.alloc HOW.out (.cells #[.int .i64 0, .nilFunc, .nilFunc, .func (.func 50) #[] #[]] 63))
  generalize (v4.alloc (.cells #[.int .i64 0, .nilFunc, .nilFunc, .func (.func 50) #[] #[]] 63)) = u4 at *
  have f0 := HF.out.cell 0; have f1 := HF.out.cell 1; have f2 := HF.out.cell 2; have f3 := HF.out.cell 3; simp at f0 f1 f2 f3
  have mi := HMB.out.cell 11; simp at mi
  clear a0 a1 a2 a3
  obtain ⟨A4, c4, rfl, _, _⟩ := own_form HOW.out
  have hw : IntKind.u64.wrap (x11.size : Int) = x11.size := by rw [IntKind.wrap_u64]; omega
  have HLW := hide (low_any u4 B0 x11.size 2 (4 + 4 + 2 + x4.size + 2 + x5.size + 2 + x6.size) _ _ (by omega) (by omega) (by omega) HBV.out HOW.out)
  go_upto_region 12 with (first | (go_at_call 50; refine (place11 _ _).mono ?_; rintro e w4 ⟨rfl, rfl⟩) | (go_at_call 34; refine HLW.out.mono ?_; rintro e w5 ⟨vv, rfl, hown, hbel⟩; replace HOW := hide hown; replace HMB := hide (HMB.out.below hbel (by have := HD.out; omega)); replace HROW := hide (HROW.out.below hbel (by have := HD.out; omega)); replace HX1 := hide (HX1.out.below hbel (by have := HD.out; omega)); replace HX2 := hide (HX2.out.below hbel (by have := HD.out; omega)); replace HO := hide (only_below HO.out hbel (by have := HD.out; omega)); replace HBV := hide (Nat.le_trans HBV.out hbel.size); clear hown hbel))
  obtain ⟨Aq, cq, rfl, _, _⟩ := own_form HOW.out
  go_wp2_with (at_builtin; refine Lib.wpList_append_own_string _ rfl _ _ 22 9 rfl B0 5 i0 Try.underlying22 Try.underlying9 hi hz0 hz1 hz2 _ (4 + 4 + 2 + x4.size + 2 + x5.size + 2 + x6.size + 2) _ rfl HOW.out x11 rfl (by unfold maxLen; omega) (by omega) HBV.out ?_; intro vv v5 hown1 hg1 _; have hbel := below_row hg1 (fun jj hjj => own_block_ge HOW.out hjj) HBV.out; rw [str_cells, ← ints_append, ← byts_append] at hown1; replace HOW := hide hown1; replace HMB := hide (HMB.out.below hbel (by have := HD.out; omega)); replace HROW := hide (HROW.out.below hbel (by have := HD.out; omega)); replace HX1 := hide (HX1.out.below hbel (by have := HD.out; omega)); replace HX2 := hide (HX2.out.below hbel (by have := HD.out; omega)); replace HO := hide (only_below HO.out hbel (by have := HD.out; omega)); replace HBV := hide (Nat.le_trans HBV.out hbel.size); clear hown1 hg1 hbel)
  clear f0 f1 f2 f3 mi HF HLW hw
  rw [rounds_succ]
  have a0 := HROW.out.cell 20; have a1 := HROW.out.cell 21; have a2 := HROW.out.cell 22; have a3 := HROW.out.cell 23
  simp [row1C, numC, txtC, cntC] at a0 a1 a2 a3
  go_upto_region 8 with fail
  have HF := hide (Blk.new v5 63 #[.int .i64 0, .nilFunc, .nilFunc, .func (.func 51) #[] #[]])
  replace HBV := hide (show B0 ≤ (v5.alloc (.cells #[.int .i64 0, .nilFunc, .nilFunc, .func (.func 51) #[] #[]] 63)).heap.size by have := HBV.out; simp; omega)
  replace HMB := hide (HMB.out.alloc (.cells #[.int .i64 0, .nilFunc, .nilFunc, .func (.func 51) #[] #[]] 63))
  replace HROW := hide (HROW.out.alloc (.cells #[.int .i64 0, .nilFunc, .nilFunc, .func (.func 51) #[] #[]] 63))
  replace HX1 := hide (HX1.out.alloc (.cells #[.int .i64 0, .nilFunc, .nilFunc, .func (.func 51) #[] #[]] 63))
  replace HX2 := hide (HX2.out.alloc (.cells #[.int .i64 0, .nilFunc, .nilFunc, .func (.func 51) #[] #[]] 63))
  replace HO := hide (HO.out.alloc (.cells #[.int .i64 0, .nilFunc, .nilFunc, .func (.func 51) #[] #[]] 63))
  replace HOW := hide (World.ownsRow.alloc HOW.out (.cells #[.int .i64 0, .nilFunc, .nilFunc, .func (.func 51) #[] #[]] 63))
  generalize (v5.alloc (.cells #[.int .i64 0, .nilFunc, .nilFunc, .func (.func 51) #[] #[]] 63)) = u5 at *
  have f0 := HF.out.cell 0; have f1 := HF.out.cell 1; have f2 := HF.out.cell 2; have f3 := HF.out.cell 3; simp at f0 f1 f2 f3
  have mi := HMB.out.cell 12; simp at mi
  clear a0 a1 a2 a3
  obtain ⟨A5, c5, rfl, _, _⟩ := own_form HOW.out
  have hw : IntKind.u64.wrap (x12.size : Int) = x12.size := by rw [IntKind.wrap_u64]; omega
  have HLW := hide (low_any u5 B0 x12.size 2 (4 + 4 + 2 + x4.size + 2 + x5.size + 2 + x6.size + 2 + x11.size) _ _ (by omega) (by omega) (by omega) HBV.out HOW.out)
  go_upto_region 12 with (first | (go_at_call 51; refine (place12 _ _).mono ?_; rintro e w4 ⟨rfl, rfl⟩) | (go_at_call 34; refine HLW.out.mono ?_; rintro e w5 ⟨vv, rfl, hown, hbel⟩; replace HOW := hide hown; replace HMB := hide (HMB.out.below hbel (by have := HD.out; omega)); replace HROW := hide (HROW.out.below hbel (by have := HD.out; omega)); replace HX1 := hide (HX1.out.below hbel (by have := HD.out; omega)); replace HX2 := hide (HX2.out.below hbel (by have := HD.out; omega)); replace HO := hide (only_below HO.out hbel (by have := HD.out; omega)); replace HBV := hide (Nat.le_trans HBV.out hbel.size); clear hown hbel))
  obtain ⟨Aq, cq, rfl, _, _⟩ := own_form HOW.out
  go_wp2_with (at_builtin; refine Lib.wpList_append_own_string _ rfl _ _ 22 9 rfl B0 5 i0 Try.underlying22 Try.underlying9 hi hz0 hz1 hz2 _ (4 + 4 + 2 + x4.size + 2 + x5.size + 2 + x6.size + 2 + x11.size + 2) _ rfl HOW.out x12 rfl (by unfold maxLen; omega) (by omega) HBV.out ?_; intro vv v6 hown1 hg1 _; have hbel := below_row hg1 (fun jj hjj => own_block_ge HOW.out hjj) HBV.out; rw [str_cells, ← ints_append, ← byts_append] at hown1; replace HOW := hide hown1; replace HMB := hide (HMB.out.below hbel (by have := HD.out; omega)); replace HROW := hide (HROW.out.below hbel (by have := HD.out; omega)); replace HX1 := hide (HX1.out.below hbel (by have := HD.out; omega)); replace HX2 := hide (HX2.out.below hbel (by have := HD.out; omega)); replace HO := hide (only_below HO.out hbel (by have := HD.out; omega)); replace HBV := hide (Nat.le_trans HBV.out hbel.size); clear hown1 hg1 hbel)
  clear f0 f1 f2 f3 mi HF HLW hw
  rw [rounds_succ]
  obtain ⟨Az, cz, rfl, _, _⟩ := own_form HOW.out
  go_wp2_with fail
  go_ret2
  exact print_yes HV.out rfl HO.out HOW.out
end Go.Proofs.Ytfmfnfmhknlpbaa

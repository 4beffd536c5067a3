/-
  Walks and plain words (texts Wt1, Wt2). No condition beyond those that each theorem states.
-/
import Derived.Test.YtcokjoidpnfjhaaGreatDoorA09
import Derived.Test.YtcokjoidpnfjhaaGreatDoorA10
namespace Go.Proofs.YtcokjoidpnfjhaaGreatDoor
section
open Go.RowKit Go.Deep

set_option maxRecDepth 100000 in
set_option maxHeartbeats 12800000 in
theorem Terms_1 (w : World) (s r c : Nat) (x4 x5 x6 x7 x8 x9 x10 x11 x12 : ByteArray) (hF : (Mg.mk 1 s r c x4 x5 x6 x7 x8 x9 x10 x11 x12).Fine) :
    Calls Tryz.prog 109 #[.agg #[.int .i64 1, .int .u32 (s : Nat), .int .u32 (r : Nat), .int .u64 (c : Nat), .string x4, .string x5, .string x6, .string x7, .string x8, .string x9, .string x10, .string x11, .string x12]] w (TermsPost (Mg.mk 1 s r c x4 x5 x6 x7 x8 x9 x10 x11 x12) w) := by
  have hst := fun (W : World) (a : Addr) (fn : Fn) (c : Array Value) => (run_store Tryz.prog W a (.func fn #[] c) .plain rfl : (store a (.func fn #[] c)).run Tryz.prog W = stored Tryz.prog W a (.func fn #[] c) .plain)
  have hsn := fun (W : World) (a : Addr) => (run_store Tryz.prog W a .nilFunc .plain rfl : (store a .nilFunc).run Tryz.prog W = stored Tryz.prog W a .nilFunc .plain)
  have HP := hide (fun W => proper_1 W s r c x4 x5 x6 x7 x8 x9 x10 x11 x12 hF)
  unfold PropPost at HP
  obtain ⟨hs, hr, hc, hx4, hx5, hx6, hx7, hx8, hx9, hx10, hx11, hx12⟩ := hF
  simp only at hs hr hc hx4 hx5 hx6 hx7 hx8 hx9 hx10 hx11 hx12
  have HMB := hide (Blk.new w 29 #[.int .i64 1, .int .u32 (s : Nat), .int .u32 (r : Nat), .int .u64 (c : Nat), .string x4, .string x5, .string x6, .string x7, .string x8, .string x9, .string x10, .string x11, .string x12])
  have HO := hide ((Only.refl [] w).alloc (.cells #[.int .i64 1, .int .u32 (s : Nat), .int .u32 (r : Nat), .int .u64 (c : Nat), .string x4, .string x5, .string x6, .string x7, .string x8, .string x9, .string x10, .string x11, .string x12] 29))
  have m0 := HMB.out.cell 0; have m1 := HMB.out.cell 1; have m2 := HMB.out.cell 2; have m3 := HMB.out.cell 3; have m4 := HMB.out.cell 4; have m5 := HMB.out.cell 5; have m6 := HMB.out.cell 6; have m7 := HMB.out.cell 7; have m8 := HMB.out.cell 8; have m9 := HMB.out.cell 9; have m10 := HMB.out.cell 10; have m11 := HMB.out.cell 11; have m12 := HMB.out.cell 12; simp at m0 m1 m2 m3 m4 m5 m6 m7 m8 m9 m10 m11 m12
  cases hB : rightM (Mg.mk 1 s r c x4 x5 x6 x7 x8 x9 x10 x11 x12)
  case false =>
    rw [hB] at HP
    have HV := hide hB
    clear hB
    go_enter Tryz.func109, Tryz.ntmps109
    go_wp2_with (go_at_call 138; refine (HP.out _).mono ?_; rintro e w1 ⟨fv, rfl, ho, _⟩; replace HO := hide (HO.out.trans ho); clear ho)
    go_ret
    exact terms_no HV.out HO.out
  rw [hB] at HP
  have HV := hide hB
  have hz4 : x4.size ≤ 65535 := fit_size (by have h := hB; simp [rightM, textsM] at h; simp [h])
  have hz5 : x5.size ≤ 65535 := fit_size (by have h := hB; simp [rightM, textsM] at h; simp [h])
  have hz6 : x6.size ≤ 65535 := fit_size (by have h := hB; simp [rightM, textsM] at h; simp [h])
  have hz11 : x11.size ≤ 65535 := fit_size (by have h := hB; simp [rightM, textsM] at h; simp [h])
  have hz12 : x12.size ≤ 65535 := fit_size (by have h := hB; simp [rightM, textsM] at h; simp [h])
  clear hB
  obtain ⟨is, his, hs0, hs1, hs2⟩ := info_parts (show (Tryz.prog.info? 9).map (fun i => (i.zero, i.size, i.bytes)) = some (some (.string ByteArray.empty), 1, 16) by kernel_rfl)
  go_enter Tryz.func109, Tryz.ntmps109
  go_upto_region 6 with (go_at_call 138; refine (HP.out _).mono ?_; rintro e w1 ⟨fv, rfl, ho, hz⟩; obtain ⟨g, b1, b2, rfl, hg, hb1, hb2, hrow, hx1, hx2⟩ := hz (by trivial); rw [World.size_alloc] at hg hb1 hb2; have HROW := hide hrow; replace HMB := hide (HMB.out.only ho (by simp)); replace HO := hide (HO.out.trans ho); clear hg hb1 hb2 hrow hx1 hx2 ho hz m0 m1 m2 m3 m4 m5 m6 m7 m8 m9 m10 m11 m12)
  have HD := hide (show w.heap.size < w1.heap.size ∧ g < w1.heap.size from ⟨HMB.out.lt, HROW.out.lt⟩)
  have HOW := hide (show w1.ownsRow w1.heap.size 9 1 (.slice none 0 0) 0 (strc []) from ⟨rfl, .inl ⟨rfl, rfl⟩⟩)
  have HBV := hide (Nat.le_refl w1.heap.size)
  obtain ⟨B0, hB0⟩ : ∃ B0, B0 = w1.heap.size := ⟨_, rfl⟩
  have HBV := hide (show B0 ≤ w1.heap.size by omega)
  rw [← hB0] at HD HOW
  clear hB0
  obtain ⟨v0, rfl⟩ : ∃ v0, v0 = w1 := ⟨w1, rfl⟩
  refine wp_loop_rounds 7 ?_
  rw [rounds_succ]
  have a0 := HROW.out.cell 0; have a1 := HROW.out.cell 1; have a2 := HROW.out.cell 2; have a3 := HROW.out.cell 3
  simp [row1C, numC, txtC] at a0 a1 a2 a3
  go_upto_region 8 with fail
  have HF := hide (Blk.new v0 230 #[.int .i64 4, .func (.func 238) #[] #[.pointer (some ⟨b1, 0, none⟩)], .func (.func 239) #[] #[.pointer (some ⟨b1, 0, none⟩)], .nilFunc])
  replace HBV := hide (show B0 ≤ (v0.alloc (.cells #[.int .i64 4, .func (.func 238) #[] #[.pointer (some ⟨b1, 0, none⟩)], .func (.func 239) #[] #[.pointer (some ⟨b1, 0, none⟩)], .nilFunc] 230)).heap.size by have := HBV.out; simp; omega)
  replace HMB := hide (HMB.out.alloc (.cells #[.int .i64 4, .func (.func 238) #[] #[.pointer (some ⟨b1, 0, none⟩)], .func (.func 239) #[] #[.pointer (some ⟨b1, 0, none⟩)], .nilFunc] 230))
  replace HROW := hide (HROW.out.alloc (.cells #[.int .i64 4, .func (.func 238) #[] #[.pointer (some ⟨b1, 0, none⟩)], .func (.func 239) #[] #[.pointer (some ⟨b1, 0, none⟩)], .nilFunc] 230))
  replace HO := hide (HO.out.alloc (.cells #[.int .i64 4, .func (.func 238) #[] #[.pointer (some ⟨b1, 0, none⟩)], .func (.func 239) #[] #[.pointer (some ⟨b1, 0, none⟩)], .nilFunc] 230))
  replace HOW := hide (World.ownsRow.alloc HOW.out (.cells #[.int .i64 4, .func (.func 238) #[] #[.pointer (some ⟨b1, 0, none⟩)], .func (.func 239) #[] #[.pointer (some ⟨b1, 0, none⟩)], .nilFunc] 230))
  generalize (v0.alloc (.cells #[.int .i64 4, .func (.func 238) #[] #[.pointer (some ⟨b1, 0, none⟩)], .func (.func 239) #[] #[.pointer (some ⟨b1, 0, none⟩)], .nilFunc] 230)) = u0 at *
  have f0 := HF.out.cell 0; have f1 := HF.out.cell 1; have f2 := HF.out.cell 2; have f3 := HF.out.cell 3; simp at f0 f1 f2 f3
  have mi := HMB.out.cell 1; simp at mi
  clear a0 a1 a2 a3
  go_wp2_with fail
  obtain ⟨v1, rfl⟩ : ∃ v, v = u0 := ⟨u0, rfl⟩
  clear f0 f1 f2 f3 mi HF
  rw [rounds_succ]
  have a0 := HROW.out.cell 4; have a1 := HROW.out.cell 5; have a2 := HROW.out.cell 6; have a3 := HROW.out.cell 7
  simp [row1C, numC, txtC] at a0 a1 a2 a3
  go_upto_region 8 with fail
  have HF := hide (Blk.new v1 230 #[.int .i64 0, .nilFunc, .nilFunc, .func (.func 209) #[] #[]])
  replace HBV := hide (show B0 ≤ (v1.alloc (.cells #[.int .i64 0, .nilFunc, .nilFunc, .func (.func 209) #[] #[]] 230)).heap.size by have := HBV.out; simp; omega)
  replace HMB := hide (HMB.out.alloc (.cells #[.int .i64 0, .nilFunc, .nilFunc, .func (.func 209) #[] #[]] 230))
  replace HROW := hide (HROW.out.alloc (.cells #[.int .i64 0, .nilFunc, .nilFunc, .func (.func 209) #[] #[]] 230))
  replace HO := hide (HO.out.alloc (.cells #[.int .i64 0, .nilFunc, .nilFunc, .func (.func 209) #[] #[]] 230))
  replace HOW := hide (World.ownsRow.alloc HOW.out (.cells #[.int .i64 0, .nilFunc, .nilFunc, .func (.func 209) #[] #[]] 230))
  generalize (v1.alloc (.cells #[.int .i64 0, .nilFunc, .nilFunc, .func (.func 209) #[] #[]] 230)) = u1 at *
  have f0 := HF.out.cell 0; have f1 := HF.out.cell 1; have f2 := HF.out.cell 2; have f3 := HF.out.cell 3; simp at f0 f1 f2 f3
  have mi := HMB.out.cell 4; simp at mi
  clear a0 a1 a2 a3
  have HRN := hide (reads_one u1 9 (.string x4) (u1.heap.size + 1) (Nat.lt_succ_self _))
  replace HMB := hide (HMB.out.alloc (.cells #[.string x4] 9))
  replace HROW := hide (HROW.out.alloc (.cells #[.string x4] 9))
  replace HO := hide (HO.out.alloc (.cells #[.string x4] 9))
  replace HOW := hide (World.ownsRow.alloc HOW.out (.cells #[.string x4] 9))
  replace HBV := hide (show B0 ≤ (u1.alloc (.cells #[.string x4] 9)).heap.size by have := HBV.out; simp; omega)
  go_wp2_with (first | (go_at_call 209; refine (place4 _ _).mono ?_; rintro e w4 ⟨rfl, rfl⟩) | (at_builtin; refine wpList_append_any _ rfl (.tmp 24) (.tmp 30) 60 rfl B0 9 is (.string ByteArray.empty) 1 16 Tryz.underlying60 his hs0 hs1 hs2 rfl (by decide) _ 0 _ rfl HOW.out _ _ 1 1 [.string x4] rfl HRN.out (by simp [Value.oneCell']) (by unfold maxLen; omega) (by omega) HBV.out ?_; intro vv v2 hown1 hg1 _; have hbel := below_row hg1 (fun jj hjj => own_block_ge HOW.out hjj) HBV.out; replace HOW := hide (show v2.ownsRow B0 9 1 vv 1 (strc [x4]) from hown1); replace HMB := hide (HMB.out.below hbel (by have := HD.out; omega)); replace HROW := hide (HROW.out.below hbel (by have := HD.out; omega)); replace HO := hide (only_below HO.out hbel (by have := HD.out; omega)); replace HBV := hide (Nat.le_trans HBV.out hbel.size); clear hown1 hg1 hbel))
  clear f0 f1 f2 f3 mi HF HRN
  rw [rounds_succ]
  have a0 := HROW.out.cell 8; have a1 := HROW.out.cell 9; have a2 := HROW.out.cell 10; have a3 := HROW.out.cell 11
  simp [row1C, numC, txtC] at a0 a1 a2 a3
  go_upto_region 8 with fail
  have HF := hide (Blk.new v2 230 #[.int .i64 0, .nilFunc, .nilFunc, .func (.func 212) #[] #[]])
  replace HBV := hide (show B0 ≤ (v2.alloc (.cells #[.int .i64 0, .nilFunc, .nilFunc, .func (.func 212) #[] #[]] 230)).heap.size by have := HBV.out; simp; omega)
  replace HMB := hide (HMB.out.alloc (.cells #[.int .i64 0, .nilFunc, .nilFunc, .func (.func 212) #[] #[]] 230))
  replace HROW := hide (HROW.out.alloc (.cells #[.int .i64 0, .nilFunc, .nilFunc, .func (.func 212) #[] #[]] 230))
  replace HO := hide (HO.out.alloc (.cells #[.int .i64 0, .nilFunc, .nilFunc, .func (.func 212) #[] #[]] 230))
  replace HOW := hide (World.ownsRow.alloc HOW.out (.cells #[.int .i64 0, .nilFunc, .nilFunc, .func (.func 212) #[] #[]] 230))
  generalize (v2.alloc (.cells #[.int .i64 0, .nilFunc, .nilFunc, .func (.func 212) #[] #[]] 230)) = u2 at *
  have f0 := HF.out.cell 0; have f1 := HF.out.cell 1; have f2 := HF.out.cell 2; have f3 := HF.out.cell 3; simp at f0 f1 f2 f3
  have mi := HMB.out.cell 5; simp at mi
  clear a0 a1 a2 a3
  obtain ⟨A2, c2, rfl, _, _⟩ := own_form HOW.out
  have HRN := hide (reads_one u2 9 (.string x5) (u2.heap.size + 1) (Nat.lt_succ_self _))
  replace HMB := hide (HMB.out.alloc (.cells #[.string x5] 9))
  replace HROW := hide (HROW.out.alloc (.cells #[.string x5] 9))
  replace HO := hide (HO.out.alloc (.cells #[.string x5] 9))
  replace HOW := hide (World.ownsRow.alloc HOW.out (.cells #[.string x5] 9))
  replace HBV := hide (show B0 ≤ (u2.alloc (.cells #[.string x5] 9)).heap.size by have := HBV.out; simp; omega)
  go_wp2_with (first | (go_at_call 212; refine (place5 _ _).mono ?_; rintro e w4 ⟨rfl, rfl⟩) | (at_builtin; refine wpList_append_any _ rfl (.tmp 24) (.tmp 30) 60 rfl B0 9 is (.string ByteArray.empty) 1 16 Tryz.underlying60 his hs0 hs1 hs2 rfl (by decide) _ 1 _ rfl HOW.out _ _ 1 1 [.string x5] rfl HRN.out (by simp [Value.oneCell']) (by unfold maxLen; omega) (by omega) HBV.out ?_; intro vv v3 hown1 hg1 _; have hbel := below_row hg1 (fun jj hjj => own_block_ge HOW.out hjj) HBV.out; replace HOW := hide (show v3.ownsRow B0 9 1 vv 2 (strc [x4, x5]) from hown1); replace HMB := hide (HMB.out.below hbel (by have := HD.out; omega)); replace HROW := hide (HROW.out.below hbel (by have := HD.out; omega)); replace HO := hide (only_below HO.out hbel (by have := HD.out; omega)); replace HBV := hide (Nat.le_trans HBV.out hbel.size); clear hown1 hg1 hbel))
  clear f0 f1 f2 f3 mi HF HRN
  rw [rounds_succ]
  have a0 := HROW.out.cell 12; have a1 := HROW.out.cell 13; have a2 := HROW.out.cell 14; have a3 := HROW.out.cell 15
  simp [row1C, numC, txtC] at a0 a1 a2 a3
  go_upto_region 8 with fail
  have HF := hide (Blk.new v3 230 #[.int .i64 0, .nilFunc, .nilFunc, .func (.func 213) #[] #[]])
  replace HBV := hide (show B0 ≤ (v3.alloc (.cells #[.int .i64 0, .nilFunc, .nilFunc, .func (.func 213) #[] #[]] 230)).heap.size by have := HBV.out; simp; omega)
  replace HMB := hide (HMB.out.alloc (.cells #[.int .i64 0, .nilFunc, .nilFunc, .func (.func 213) #[] #[]] 230))
  replace HROW := hide (HROW.out.alloc (.cells #[.int .i64 0, .nilFunc, .nilFunc, .func (.func 213) #[] #[]] 230))
  replace HO := hide (HO.out.alloc (.cells #[.int .i64 0, .nilFunc, .nilFunc, .func (.func 213) #[] #[]] 230))
  replace HOW := hide (World.ownsRow.alloc HOW.out (.cells #[.int .i64 0, .nilFunc, .nilFunc, .func (.func 213) #[] #[]] 230))
  generalize (v3.alloc (.cells #[.int .i64 0, .nilFunc, .nilFunc, .func (.func 213) #[] #[]] 230)) = u3 at *
  have f0 := HF.out.cell 0; have f1 := HF.out.cell 1; have f2 := HF.out.cell 2; have f3 := HF.out.cell 3; simp at f0 f1 f2 f3
  have mi := HMB.out.cell 6; simp at mi
  clear a0 a1 a2 a3
  obtain ⟨A3, c3, rfl, _, _⟩ := own_form HOW.out
  have HRN := hide (reads_one u3 9 (.string x6) (u3.heap.size + 1) (Nat.lt_succ_self _))
  replace HMB := hide (HMB.out.alloc (.cells #[.string x6] 9))
  replace HROW := hide (HROW.out.alloc (.cells #[.string x6] 9))
  replace HO := hide (HO.out.alloc (.cells #[.string x6] 9))
  replace HOW := hide (World.ownsRow.alloc HOW.out (.cells #[.string x6] 9))
  replace HBV := hide (show B0 ≤ (u3.alloc (.cells #[.string x6] 9)).heap.size by have := HBV.out; simp; omega)
  go_wp2_with (first | (go_at_call 213; refine (place6 _ _).mono ?_; rintro e w4 ⟨rfl, rfl⟩) | (at_builtin; refine wpList_append_any _ rfl (.tmp 24) (.tmp 30) 60 rfl B0 9 is (.string ByteArray.empty) 1 16 Tryz.underlying60 his hs0 hs1 hs2 rfl (by decide) _ 2 _ rfl HOW.out _ _ 1 1 [.string x6] rfl HRN.out (by simp [Value.oneCell']) (by unfold maxLen; omega) (by omega) HBV.out ?_; intro vv v4 hown1 hg1 _; have hbel := below_row hg1 (fun jj hjj => own_block_ge HOW.out hjj) HBV.out; replace HOW := hide (show v4.ownsRow B0 9 1 vv 3 (strc [x4, x5, x6]) from hown1); replace HMB := hide (HMB.out.below hbel (by have := HD.out; omega)); replace HROW := hide (HROW.out.below hbel (by have := HD.out; omega)); replace HO := hide (only_below HO.out hbel (by have := HD.out; omega)); replace HBV := hide (Nat.le_trans HBV.out hbel.size); clear hown1 hg1 hbel))
  clear f0 f1 f2 f3 mi HF HRN
  rw [rounds_succ]
  have a0 := HROW.out.cell 16; have a1 := HROW.out.cell 17; have a2 := HROW.out.cell 18; have a3 := HROW.out.cell 19
  simp [row1C, numC, txtC] at a0 a1 a2 a3
  go_upto_region 8 with fail
  have HF := hide (Blk.new v4 230 #[.int .i64 0, .nilFunc, .nilFunc, .func (.func 210) #[] #[]])
  replace HBV := hide (show B0 ≤ (v4.alloc (.cells #[.int .i64 0, .nilFunc, .nilFunc, .func (.func 210) #[] #[]] 230)).heap.size by have := HBV.out; simp; omega)
  replace HMB := hide (HMB.out.alloc (.cells #[.int .i64 0, .nilFunc, .nilFunc, .func (.func 210) #[] #[]] 230))
  replace HROW := hide (HROW.out.alloc (.cells #[.int .i64 0, .nilFunc, .nilFunc, .func (.func 210) #[] #[]] 230))
  replace HO := hide (HO.out.alloc (.cells #[.int .i64 0, .nilFunc, .nilFunc, .func (.func 210) #[] #[]] 230))
  replace HOW := hide (World.ownsRow.alloc HOW.out (.cells #[.int .i64 0, .nilFunc, .nilFunc, .func (.func 210) #[] #[]] 230))
  generalize (v4.alloc (.cells #[.int .i64 0, .nilFunc, .nilFunc, .func (.func 210) #[] #[]] 230)) = u4 at *
  have f0 := HF.out.cell 0; have f1 := HF.out.cell 1; have f2 := HF.out.cell 2; have f3 := HF.out.cell 3; simp at f0 f1 f2 f3
  have mi := HMB.out.cell 11; simp at mi
  clear a0 a1 a2 a3
  obtain ⟨A4, c4, rfl, _, _⟩ := own_form HOW.out
  have HRN := hide (reads_one u4 9 (.string x11) (u4.heap.size + 1) (Nat.lt_succ_self _))
  replace HMB := hide (HMB.out.alloc (.cells #[.string x11] 9))
  replace HROW := hide (HROW.out.alloc (.cells #[.string x11] 9))
  replace HO := hide (HO.out.alloc (.cells #[.string x11] 9))
  replace HOW := hide (World.ownsRow.alloc HOW.out (.cells #[.string x11] 9))
  replace HBV := hide (show B0 ≤ (u4.alloc (.cells #[.string x11] 9)).heap.size by have := HBV.out; simp; omega)
  go_wp2_with (first | (go_at_call 210; refine (place11 _ _).mono ?_; rintro e w4 ⟨rfl, rfl⟩) | (at_builtin; refine wpList_append_any _ rfl (.tmp 24) (.tmp 30) 60 rfl B0 9 is (.string ByteArray.empty) 1 16 Tryz.underlying60 his hs0 hs1 hs2 rfl (by decide) _ 3 _ rfl HOW.out _ _ 1 1 [.string x11] rfl HRN.out (by simp [Value.oneCell']) (by unfold maxLen; omega) (by omega) HBV.out ?_; intro vv v5 hown1 hg1 _; have hbel := below_row hg1 (fun jj hjj => own_block_ge HOW.out hjj) HBV.out; replace HOW := hide (show v5.ownsRow B0 9 1 vv 4 (strc [x4, x5, x6, x11]) from hown1); replace HMB := hide (HMB.out.below hbel (by have := HD.out; omega)); replace HROW := hide (HROW.out.below hbel (by have := HD.out; omega)); replace HO := hide (only_below HO.out hbel (by have := HD.out; omega)); replace HBV := hide (Nat.le_trans HBV.out hbel.size); clear hown1 hg1 hbel))
  clear f0 f1 f2 f3 mi HF HRN
  rw [rounds_succ]
  have a0 := HROW.out.cell 20; have a1 := HROW.out.cell 21; have a2 := HROW.out.cell 22; have a3 := HROW.out.cell 23
  simp [row1C, numC, txtC] at a0 a1 a2 a3
  go_upto_region 8 with fail
  have HF := hide (Blk.new v5 230 #[.int .i64 0, .nilFunc, .nilFunc, .func (.func 211) #[] #[]])
  replace HBV := hide (show B0 ≤ (v5.alloc (.cells #[.int .i64 0, .nilFunc, .nilFunc, .func (.func 211) #[] #[]] 230)).heap.size by have := HBV.out; simp; omega)
  replace HMB := hide (HMB.out.alloc (.cells #[.int .i64 0, .nilFunc, .nilFunc, .func (.func 211) #[] #[]] 230))
  replace HROW := hide (HROW.out.alloc (.cells #[.int .i64 0, .nilFunc, .nilFunc, .func (.func 211) #[] #[]] 230))
  replace HO := hide (HO.out.alloc (.cells #[.int .i64 0, .nilFunc, .nilFunc, .func (.func 211) #[] #[]] 230))
  replace HOW := hide (World.ownsRow.alloc HOW.out (.cells #[.int .i64 0, .nilFunc, .nilFunc, .func (.func 211) #[] #[]] 230))
  generalize (v5.alloc (.cells #[.int .i64 0, .nilFunc, .nilFunc, .func (.func 211) #[] #[]] 230)) = u5 at *
  have f0 := HF.out.cell 0; have f1 := HF.out.cell 1; have f2 := HF.out.cell 2; have f3 := HF.out.cell 3; simp at f0 f1 f2 f3
  have mi := HMB.out.cell 12; simp at mi
  clear a0 a1 a2 a3
  obtain ⟨A5, c5, rfl, _, _⟩ := own_form HOW.out
  have HRN := hide (reads_one u5 9 (.string x12) (u5.heap.size + 1) (Nat.lt_succ_self _))
  replace HMB := hide (HMB.out.alloc (.cells #[.string x12] 9))
  replace HROW := hide (HROW.out.alloc (.cells #[.string x12] 9))
  replace HO := hide (HO.out.alloc (.cells #[.string x12] 9))
  replace HOW := hide (World.ownsRow.alloc HOW.out (.cells #[.string x12] 9))
  replace HBV := hide (show B0 ≤ (u5.alloc (.cells #[.string x12] 9)).heap.size by have := HBV.out; simp; omega)
  go_wp2_with (first | (go_at_call 211; refine (place12 _ _).mono ?_; rintro e w4 ⟨rfl, rfl⟩) | (at_builtin; refine wpList_append_any _ rfl (.tmp 24) (.tmp 30) 60 rfl B0 9 is (.string ByteArray.empty) 1 16 Tryz.underlying60 his hs0 hs1 hs2 rfl (by decide) _ 4 _ rfl HOW.out _ _ 1 1 [.string x12] rfl HRN.out (by simp [Value.oneCell']) (by unfold maxLen; omega) (by omega) HBV.out ?_; intro vv v6 hown1 hg1 _; have hbel := below_row hg1 (fun jj hjj => own_block_ge HOW.out hjj) HBV.out; replace HOW := hide (show v6.ownsRow B0 9 1 vv 5 (strc [x4, x5, x6, x11, x12]) from hown1); replace HMB := hide (HMB.out.below hbel (by have := HD.out; omega)); replace HROW := hide (HROW.out.below hbel (by have := HD.out; omega)); replace HO := hide (only_below HO.out hbel (by have := HD.out; omega)); replace HBV := hide (Nat.le_trans HBV.out hbel.size); clear hown1 hg1 hbel))
  clear f0 f1 f2 f3 mi HF HRN
  rw [rounds_succ]
  obtain ⟨Az, cz, rfl, _, _⟩ := own_form HOW.out
  go_wp2_with fail
  go_ret
  exact terms_yes HV.out rfl HO.out HOW.out
end
section
open Go.RowKit Go.Deep

set_option maxRecDepth 100000 in
set_option maxHeartbeats 12800000 in
theorem Terms_2 (w : World) (s r c : Nat) (x4 x5 x6 x7 x8 x9 x10 x11 x12 : ByteArray) (hF : (Mg.mk 2 s r c x4 x5 x6 x7 x8 x9 x10 x11 x12).Fine) :
    Calls Tryz.prog 109 #[.agg #[.int .i64 2, .int .u32 (s : Nat), .int .u32 (r : Nat), .int .u64 (c : Nat), .string x4, .string x5, .string x6, .string x7, .string x8, .string x9, .string x10, .string x11, .string x12]] w (TermsPost (Mg.mk 2 s r c x4 x5 x6 x7 x8 x9 x10 x11 x12) w) := by
  have hst := fun (W : World) (a : Addr) (fn : Fn) (c : Array Value) => (run_store Tryz.prog W a (.func fn #[] c) .plain rfl : (store a (.func fn #[] c)).run Tryz.prog W = stored Tryz.prog W a (.func fn #[] c) .plain)
  have hsn := fun (W : World) (a : Addr) => (run_store Tryz.prog W a .nilFunc .plain rfl : (store a .nilFunc).run Tryz.prog W = stored Tryz.prog W a .nilFunc .plain)
  have HP := hide (fun W => proper_2 W s r c x4 x5 x6 x7 x8 x9 x10 x11 x12 hF)
  unfold PropPost at HP
  obtain ⟨hs, hr, hc, hx4, hx5, hx6, hx7, hx8, hx9, hx10, hx11, hx12⟩ := hF
  simp only at hs hr hc hx4 hx5 hx6 hx7 hx8 hx9 hx10 hx11 hx12
  have HMB := hide (Blk.new w 29 #[.int .i64 2, .int .u32 (s : Nat), .int .u32 (r : Nat), .int .u64 (c : Nat), .string x4, .string x5, .string x6, .string x7, .string x8, .string x9, .string x10, .string x11, .string x12])
  have HO := hide ((Only.refl [] w).alloc (.cells #[.int .i64 2, .int .u32 (s : Nat), .int .u32 (r : Nat), .int .u64 (c : Nat), .string x4, .string x5, .string x6, .string x7, .string x8, .string x9, .string x10, .string x11, .string x12] 29))
  have m0 := HMB.out.cell 0; have m1 := HMB.out.cell 1; have m2 := HMB.out.cell 2; have m3 := HMB.out.cell 3; have m4 := HMB.out.cell 4; have m5 := HMB.out.cell 5; have m6 := HMB.out.cell 6; have m7 := HMB.out.cell 7; have m8 := HMB.out.cell 8; have m9 := HMB.out.cell 9; have m10 := HMB.out.cell 10; have m11 := HMB.out.cell 11; have m12 := HMB.out.cell 12; simp at m0 m1 m2 m3 m4 m5 m6 m7 m8 m9 m10 m11 m12
  cases hB : rightM (Mg.mk 2 s r c x4 x5 x6 x7 x8 x9 x10 x11 x12)
  case false =>
    rw [hB] at HP
    have HV := hide hB
    clear hB
    go_enter Tryz.func109, Tryz.ntmps109
    go_wp2_with (go_at_call 138; refine (HP.out _).mono ?_; rintro e w1 ⟨fv, rfl, ho, _⟩; replace HO := hide (HO.out.trans ho); clear ho)
    go_ret
    exact terms_no HV.out HO.out
  rw [hB] at HP
  have HV := hide hB
  have hz4 : x4.size ≤ 65535 := fit_size (by have h := hB; simp [rightM, textsM] at h; simp [h])
  have hz7 : x7.size ≤ 65535 := fit_size (by have h := hB; simp [rightM, textsM] at h; simp [h])
  have hz11 : x11.size ≤ 65535 := fit_size (by have h := hB; simp [rightM, textsM] at h; simp [h])
  have hz12 : x12.size ≤ 65535 := fit_size (by have h := hB; simp [rightM, textsM] at h; simp [h])
  clear hB
  obtain ⟨is, his, hs0, hs1, hs2⟩ := info_parts (show (Tryz.prog.info? 9).map (fun i => (i.zero, i.size, i.bytes)) = some (some (.string ByteArray.empty), 1, 16) by kernel_rfl)
  go_enter Tryz.func109, Tryz.ntmps109
  go_upto_region 6 with (go_at_call 138; refine (HP.out _).mono ?_; rintro e w1 ⟨fv, rfl, ho, hz⟩; obtain ⟨g, b1, b2, rfl, hg, hb1, hb2, hrow, hx1, hx2⟩ := hz (by trivial); rw [World.size_alloc] at hg hb1 hb2; have HROW := hide hrow; replace HMB := hide (HMB.out.only ho (by simp)); replace HO := hide (HO.out.trans ho); clear hg hb1 hb2 hrow hx1 hx2 ho hz m0 m1 m2 m3 m4 m5 m6 m7 m8 m9 m10 m11 m12)
  have HD := hide (show w.heap.size < w1.heap.size ∧ g < w1.heap.size from ⟨HMB.out.lt, HROW.out.lt⟩)
  have HOW := hide (show w1.ownsRow w1.heap.size 9 1 (.slice none 0 0) 0 (strc []) from ⟨rfl, .inl ⟨rfl, rfl⟩⟩)
  have HBV := hide (Nat.le_refl w1.heap.size)
  obtain ⟨B0, hB0⟩ : ∃ B0, B0 = w1.heap.size := ⟨_, rfl⟩
  have HBV := hide (show B0 ≤ w1.heap.size by omega)
  rw [← hB0] at HD HOW
  clear hB0
  obtain ⟨v0, rfl⟩ : ∃ v0, v0 = w1 := ⟨w1, rfl⟩
  refine wp_loop_rounds 7 ?_
  rw [rounds_succ]
  have a0 := HROW.out.cell 0; have a1 := HROW.out.cell 1; have a2 := HROW.out.cell 2; have a3 := HROW.out.cell 3
  simp [row2C, numC, txtC] at a0 a1 a2 a3
  go_upto_region 8 with fail
  have HF := hide (Blk.new v0 230 #[.int .i64 4, .func (.func 238) #[] #[.pointer (some ⟨b1, 0, none⟩)], .func (.func 239) #[] #[.pointer (some ⟨b1, 0, none⟩)], .nilFunc])
  replace HBV := hide (show B0 ≤ (v0.alloc (.cells #[.int .i64 4, .func (.func 238) #[] #[.pointer (some ⟨b1, 0, none⟩)], .func (.func 239) #[] #[.pointer (some ⟨b1, 0, none⟩)], .nilFunc] 230)).heap.size by have := HBV.out; simp; omega)
  replace HMB := hide (HMB.out.alloc (.cells #[.int .i64 4, .func (.func 238) #[] #[.pointer (some ⟨b1, 0, none⟩)], .func (.func 239) #[] #[.pointer (some ⟨b1, 0, none⟩)], .nilFunc] 230))
  replace HROW := hide (HROW.out.alloc (.cells #[.int .i64 4, .func (.func 238) #[] #[.pointer (some ⟨b1, 0, none⟩)], .func (.func 239) #[] #[.pointer (some ⟨b1, 0, none⟩)], .nilFunc] 230))
  replace HO := hide (HO.out.alloc (.cells #[.int .i64 4, .func (.func 238) #[] #[.pointer (some ⟨b1, 0, none⟩)], .func (.func 239) #[] #[.pointer (some ⟨b1, 0, none⟩)], .nilFunc] 230))
  replace HOW := hide (World.ownsRow.alloc HOW.out (.cells #[.int .i64 4, .func (.func 238) #[] #[.pointer (some ⟨b1, 0, none⟩)], .func (.func 239) #[] #[.pointer (some ⟨b1, 0, none⟩)], .nilFunc] 230))
  generalize (v0.alloc (.cells #[.int .i64 4, .func (.func 238) #[] #[.pointer (some ⟨b1, 0, none⟩)], .func (.func 239) #[] #[.pointer (some ⟨b1, 0, none⟩)], .nilFunc] 230)) = u0 at *
  have f0 := HF.out.cell 0; have f1 := HF.out.cell 1; have f2 := HF.out.cell 2; have f3 := HF.out.cell 3; simp at f0 f1 f2 f3
  have mi := HMB.out.cell 1; simp at mi
  clear a0 a1 a2 a3
  go_wp2_with fail
  obtain ⟨v1, rfl⟩ : ∃ v, v = u0 := ⟨u0, rfl⟩
  clear f0 f1 f2 f3 mi HF
  rw [rounds_succ]
  have a0 := HROW.out.cell 4; have a1 := HROW.out.cell 5; have a2 := HROW.out.cell 6; have a3 := HROW.out.cell 7
  simp [row2C, numC, txtC] at a0 a1 a2 a3
  go_upto_region 8 with fail
  have HF := hide (Blk.new v1 230 #[.int .i64 4, .func (.func 238) #[] #[.pointer (some ⟨b2, 0, none⟩)], .func (.func 239) #[] #[.pointer (some ⟨b2, 0, none⟩)], .nilFunc])
  replace HBV := hide (show B0 ≤ (v1.alloc (.cells #[.int .i64 4, .func (.func 238) #[] #[.pointer (some ⟨b2, 0, none⟩)], .func (.func 239) #[] #[.pointer (some ⟨b2, 0, none⟩)], .nilFunc] 230)).heap.size by have := HBV.out; simp; omega)
  replace HMB := hide (HMB.out.alloc (.cells #[.int .i64 4, .func (.func 238) #[] #[.pointer (some ⟨b2, 0, none⟩)], .func (.func 239) #[] #[.pointer (some ⟨b2, 0, none⟩)], .nilFunc] 230))
  replace HROW := hide (HROW.out.alloc (.cells #[.int .i64 4, .func (.func 238) #[] #[.pointer (some ⟨b2, 0, none⟩)], .func (.func 239) #[] #[.pointer (some ⟨b2, 0, none⟩)], .nilFunc] 230))
  replace HO := hide (HO.out.alloc (.cells #[.int .i64 4, .func (.func 238) #[] #[.pointer (some ⟨b2, 0, none⟩)], .func (.func 239) #[] #[.pointer (some ⟨b2, 0, none⟩)], .nilFunc] 230))
  replace HOW := hide (World.ownsRow.alloc HOW.out (.cells #[.int .i64 4, .func (.func 238) #[] #[.pointer (some ⟨b2, 0, none⟩)], .func (.func 239) #[] #[.pointer (some ⟨b2, 0, none⟩)], .nilFunc] 230))
  generalize (v1.alloc (.cells #[.int .i64 4, .func (.func 238) #[] #[.pointer (some ⟨b2, 0, none⟩)], .func (.func 239) #[] #[.pointer (some ⟨b2, 0, none⟩)], .nilFunc] 230)) = u1 at *
  have f0 := HF.out.cell 0; have f1 := HF.out.cell 1; have f2 := HF.out.cell 2; have f3 := HF.out.cell 3; simp at f0 f1 f2 f3
  have mi := HMB.out.cell 2; simp at mi
  clear a0 a1 a2 a3
  go_wp2_with fail
  obtain ⟨v2, rfl⟩ : ∃ v, v = u1 := ⟨u1, rfl⟩
  clear f0 f1 f2 f3 mi HF
  rw [rounds_succ]
  have a0 := HROW.out.cell 8; have a1 := HROW.out.cell 9; have a2 := HROW.out.cell 10; have a3 := HROW.out.cell 11
  simp [row2C, numC, txtC] at a0 a1 a2 a3
  go_upto_region 8 with fail
  have HF := hide (Blk.new v2 230 #[.int .i64 0, .nilFunc, .nilFunc, .func (.func 209) #[] #[]])
  replace HBV := hide (show B0 ≤ (v2.alloc (.cells #[.int .i64 0, .nilFunc, .nilFunc, .func (.func 209) #[] #[]] 230)).heap.size by have := HBV.out; simp; omega)
  replace HMB := hide (HMB.out.alloc (.cells #[.int .i64 0, .nilFunc, .nilFunc, .func (.func 209) #[] #[]] 230))
  replace HROW := hide (HROW.out.alloc (.cells #[.int .i64 0, .nilFunc, .nilFunc, .func (.func 209) #[] #[]] 230))
  replace HO := hide (HO.out.alloc (.cells #[.int .i64 0, .nilFunc, .nilFunc, .func (.func 209) #[] #[]] 230))
  replace HOW := hide (World.ownsRow.alloc HOW.out (.cells #[.int .i64 0, .nilFunc, .nilFunc, .func (.func 209) #[] #[]] 230))
  generalize (v2.alloc (.cells #[.int .i64 0, .nilFunc, .nilFunc, .func (.func 209) #[] #[]] 230)) = u2 at *
  have f0 := HF.out.cell 0; have f1 := HF.out.cell 1; have f2 := HF.out.cell 2; have f3 := HF.out.cell 3; simp at f0 f1 f2 f3
  have mi := HMB.out.cell 4; simp at mi
  clear a0 a1 a2 a3
  have HRN := hide (reads_one u2 9 (.string x4) (u2.heap.size + 1) (Nat.lt_succ_self _))
  replace HMB := hide (HMB.out.alloc (.cells #[.string x4] 9))
  replace HROW := hide (HROW.out.alloc (.cells #[.string x4] 9))
  replace HO := hide (HO.out.alloc (.cells #[.string x4] 9))
  replace HOW := hide (World.ownsRow.alloc HOW.out (.cells #[.string x4] 9))
  replace HBV := hide (show B0 ≤ (u2.alloc (.cells #[.string x4] 9)).heap.size by have := HBV.out; simp; omega)
  go_wp2_with (first | (go_at_call 209; refine (place4 _ _).mono ?_; rintro e w4 ⟨rfl, rfl⟩) | (at_builtin; refine wpList_append_any _ rfl (.tmp 24) (.tmp 30) 60 rfl B0 9 is (.string ByteArray.empty) 1 16 Tryz.underlying60 his hs0 hs1 hs2 rfl (by decide) _ 0 _ rfl HOW.out _ _ 1 1 [.string x4] rfl HRN.out (by simp [Value.oneCell']) (by unfold maxLen; omega) (by omega) HBV.out ?_; intro vv v3 hown1 hg1 _; have hbel := below_row hg1 (fun jj hjj => own_block_ge HOW.out hjj) HBV.out; replace HOW := hide (show v3.ownsRow B0 9 1 vv 1 (strc [x4]) from hown1); replace HMB := hide (HMB.out.below hbel (by have := HD.out; omega)); replace HROW := hide (HROW.out.below hbel (by have := HD.out; omega)); replace HO := hide (only_below HO.out hbel (by have := HD.out; omega)); replace HBV := hide (Nat.le_trans HBV.out hbel.size); clear hown1 hg1 hbel))
  clear f0 f1 f2 f3 mi HF HRN
  rw [rounds_succ]
  have a0 := HROW.out.cell 12; have a1 := HROW.out.cell 13; have a2 := HROW.out.cell 14; have a3 := HROW.out.cell 15
  simp [row2C, numC, txtC] at a0 a1 a2 a3
  go_upto_region 8 with fail
  have HF := hide (Blk.new v3 230 #[.int .i64 0, .nilFunc, .nilFunc, .func (.func 214) #[] #[]])
  replace HBV := hide (show B0 ≤ (v3.alloc (.cells #[.int .i64 0, .nilFunc, .nilFunc, .func (.func 214) #[] #[]] 230)).heap.size by have := HBV.out; simp; omega)
  replace HMB := hide (HMB.out.alloc (.cells #[.int .i64 0, .nilFunc, .nilFunc, .func (.func 214) #[] #[]] 230))
  replace HROW := hide (HROW.out.alloc (.cells #[.int .i64 0, .nilFunc, .nilFunc, .func (.func 214) #[] #[]] 230))
  replace HO := hide (HO.out.alloc (.cells #[.int .i64 0, .nilFunc, .nilFunc, .func (.func 214) #[] #[]] 230))
  replace HOW := hide (World.ownsRow.alloc HOW.out (.cells #[.int .i64 0, .nilFunc, .nilFunc, .func (.func 214) #[] #[]] 230))
  generalize (v3.alloc (.cells #[.int .i64 0, .nilFunc, .nilFunc, .func (.func 214) #[] #[]] 230)) = u3 at *
  have f0 := HF.out.cell 0; have f1 := HF.out.cell 1; have f2 := HF.out.cell 2; have f3 := HF.out.cell 3; simp at f0 f1 f2 f3
  have mi := HMB.out.cell 7; simp at mi
  clear a0 a1 a2 a3
  obtain ⟨A3, c3, rfl, _, _⟩ := own_form HOW.out
  have HRN := hide (reads_one u3 9 (.string x7) (u3.heap.size + 1) (Nat.lt_succ_self _))
  replace HMB := hide (HMB.out.alloc (.cells #[.string x7] 9))
  replace HROW := hide (HROW.out.alloc (.cells #[.string x7] 9))
  replace HO := hide (HO.out.alloc (.cells #[.string x7] 9))
  replace HOW := hide (World.ownsRow.alloc HOW.out (.cells #[.string x7] 9))
  replace HBV := hide (show B0 ≤ (u3.alloc (.cells #[.string x7] 9)).heap.size by have := HBV.out; simp; omega)
  go_wp2_with (first | (go_at_call 214; refine (place7 _ _).mono ?_; rintro e w4 ⟨rfl, rfl⟩) | (at_builtin; refine wpList_append_any _ rfl (.tmp 24) (.tmp 30) 60 rfl B0 9 is (.string ByteArray.empty) 1 16 Tryz.underlying60 his hs0 hs1 hs2 rfl (by decide) _ 1 _ rfl HOW.out _ _ 1 1 [.string x7] rfl HRN.out (by simp [Value.oneCell']) (by unfold maxLen; omega) (by omega) HBV.out ?_; intro vv v4 hown1 hg1 _; have hbel := below_row hg1 (fun jj hjj => own_block_ge HOW.out hjj) HBV.out; replace HOW := hide (show v4.ownsRow B0 9 1 vv 2 (strc [x4, x7]) from hown1); replace HMB := hide (HMB.out.below hbel (by have := HD.out; omega)); replace HROW := hide (HROW.out.below hbel (by have := HD.out; omega)); replace HO := hide (only_below HO.out hbel (by have := HD.out; omega)); replace HBV := hide (Nat.le_trans HBV.out hbel.size); clear hown1 hg1 hbel))
  clear f0 f1 f2 f3 mi HF HRN
  rw [rounds_succ]
  have a0 := HROW.out.cell 16; have a1 := HROW.out.cell 17; have a2 := HROW.out.cell 18; have a3 := HROW.out.cell 19
  simp [row2C, numC, txtC] at a0 a1 a2 a3
  go_upto_region 8 with fail
  have HF := hide (Blk.new v4 230 #[.int .i64 0, .nilFunc, .nilFunc, .func (.func 210) #[] #[]])
  replace HBV := hide (show B0 ≤ (v4.alloc (.cells #[.int .i64 0, .nilFunc, .nilFunc, .func (.func 210) #[] #[]] 230)).heap.size by have := HBV.out; simp; omega)
  replace HMB := hide (HMB.out.alloc (.cells #[.int .i64 0, .nilFunc, .nilFunc, .func (.func 210) #[] #[]] 230))
  replace HROW := hide (HROW.out.alloc (.cells #[.int .i64 0, .nilFunc, .nilFunc, .func (.func 210) #[] #[]] 230))
  replace HO := hide (HO.out.alloc (.cells #[.int .i64 0, .nilFunc, .nilFunc, .func (.func 210) #[] #[]] 230))
  replace HOW := hide (World.ownsRow.alloc HOW.out (.cells #[.int .i64 0, .nilFunc, .nilFunc, .func (.func 210) #[] #[]] 230))
  generalize (v4.alloc (.cells #[.int .i64 0, .nilFunc, .nilFunc, .func (.func 210) #[] #[]] 230)) = u4 at *
  have f0 := HF.out.cell 0; have f1 := HF.out.cell 1; have f2 := HF.out.cell 2; have f3 := HF.out.cell 3; simp at f0 f1 f2 f3
  have mi := HMB.out.cell 11; simp at mi
  clear a0 a1 a2 a3
  obtain ⟨A4, c4, rfl, _, _⟩ := own_form HOW.out
  have HRN := hide (reads_one u4 9 (.string x11) (u4.heap.size + 1) (Nat.lt_succ_self _))
  replace HMB := hide (HMB.out.alloc (.cells #[.string x11] 9))
  replace HROW := hide (HROW.out.alloc (.cells #[.string x11] 9))
  replace HO := hide (HO.out.alloc (.cells #[.string x11] 9))
  replace HOW := hide (World.ownsRow.alloc HOW.out (.cells #[.string x11] 9))
  replace HBV := hide (show B0 ≤ (u4.alloc (.cells #[.string x11] 9)).heap.size by have := HBV.out; simp; omega)
  go_wp2_with (first | (go_at_call 210; refine (place11 _ _).mono ?_; rintro e w4 ⟨rfl, rfl⟩) | (at_builtin; refine wpList_append_any _ rfl (.tmp 24) (.tmp 30) 60 rfl B0 9 is (.string ByteArray.empty) 1 16 Tryz.underlying60 his hs0 hs1 hs2 rfl (by decide) _ 2 _ rfl HOW.out _ _ 1 1 [.string x11] rfl HRN.out (by simp [Value.oneCell']) (by unfold maxLen; omega) (by omega) HBV.out ?_; intro vv v5 hown1 hg1 _; have hbel := below_row hg1 (fun jj hjj => own_block_ge HOW.out hjj) HBV.out; replace HOW := hide (show v5.ownsRow B0 9 1 vv 3 (strc [x4, x7, x11]) from hown1); replace HMB := hide (HMB.out.below hbel (by have := HD.out; omega)); replace HROW := hide (HROW.out.below hbel (by have := HD.out; omega)); replace HO := hide (only_below HO.out hbel (by have := HD.out; omega)); replace HBV := hide (Nat.le_trans HBV.out hbel.size); clear hown1 hg1 hbel))
  clear f0 f1 f2 f3 mi HF HRN
  rw [rounds_succ]
  have a0 := HROW.out.cell 20; have a1 := HROW.out.cell 21; have a2 := HROW.out.cell 22; have a3 := HROW.out.cell 23
  simp [row2C, numC, txtC] at a0 a1 a2 a3
  go_upto_region 8 with fail
  have HF := hide (Blk.new v5 230 #[.int .i64 0, .nilFunc, .nilFunc, .func (.func 211) #[] #[]])
  replace HBV := hide (show B0 ≤ (v5.alloc (.cells #[.int .i64 0, .nilFunc, .nilFunc, .func (.func 211) #[] #[]] 230)).heap.size by have := HBV.out; simp; omega)
  replace HMB := hide (HMB.out.alloc (.cells #[.int .i64 0, .nilFunc, .nilFunc, .func (.func 211) #[] #[]] 230))
  replace HROW := hide (HROW.out.alloc (.cells #[.int .i64 0, .nilFunc, .nilFunc, .func (.func 211) #[] #[]] 230))
  replace HO := hide (HO.out.alloc (.cells #[.int .i64 0, .nilFunc, .nilFunc, .func (.func 211) #[] #[]] 230))
  replace HOW := hide (World.ownsRow.alloc HOW.out (.cells #[.int .i64 0, .nilFunc, .nilFunc, .func (.func 211) #[] #[]] 230))
  generalize (v5.alloc (.cells #[.int .i64 0, .nilFunc, .nilFunc, .func (.func 211) #[] #[]] 230)) = u5 at *
  have f0 := HF.out.cell 0; have f1 := HF.out.cell 1; have f2 := HF.out.cell 2; have f3 := HF.out.cell 3; simp at f0 f1 f2 f3
  have mi := HMB.out.cell 12; simp at mi
  clear a0 a1 a2 a3
  obtain ⟨A5, c5, rfl, _, _⟩ := own_form HOW.out
  have HRN := hide (reads_one u5 9 (.string x12) (u5.heap.size + 1) (Nat.lt_succ_self _))
  replace HMB := hide (HMB.out.alloc (.cells #[.string x12] 9))
  replace HROW := hide (HROW.out.alloc (.cells #[.string x12] 9))
  replace HO := hide (HO.out.alloc (.cells #[.string x12] 9))
  replace HOW := hide (World.ownsRow.alloc HOW.out (.cells #[.string x12] 9))
  replace HBV := hide (show B0 ≤ (u5.alloc (.cells #[.string x12] 9)).heap.size by have := HBV.out; simp; omega)
  go_wp2_with (first | (go_at_call 211; refine (place12 _ _).mono ?_; rintro e w4 ⟨rfl, rfl⟩) | (at_builtin; refine wpList_append_any _ rfl (.tmp 24) (.tmp 30) 60 rfl B0 9 is (.string ByteArray.empty) 1 16 Tryz.underlying60 his hs0 hs1 hs2 rfl (by decide) _ 3 _ rfl HOW.out _ _ 1 1 [.string x12] rfl HRN.out (by simp [Value.oneCell']) (by unfold maxLen; omega) (by omega) HBV.out ?_; intro vv v6 hown1 hg1 _; have hbel := below_row hg1 (fun jj hjj => own_block_ge HOW.out hjj) HBV.out; replace HOW := hide (show v6.ownsRow B0 9 1 vv 4 (strc [x4, x7, x11, x12]) from hown1); replace HMB := hide (HMB.out.below hbel (by have := HD.out; omega)); replace HROW := hide (HROW.out.below hbel (by have := HD.out; omega)); replace HO := hide (only_below HO.out hbel (by have := HD.out; omega)); replace HBV := hide (Nat.le_trans HBV.out hbel.size); clear hown1 hg1 hbel))
  clear f0 f1 f2 f3 mi HF HRN
  rw [rounds_succ]
  obtain ⟨Az, cz, rfl, _, _⟩ := own_form HOW.out
  go_wp2_with fail
  go_ret
  exact terms_yes HV.out rfl HO.out HOW.out
end
end Go.Proofs.YtcokjoidpnfjhaaGreatDoor

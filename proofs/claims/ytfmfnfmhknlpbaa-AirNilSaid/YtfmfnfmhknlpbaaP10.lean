/-
  Walks and plain words for AirNil (texts Wt1, Wt2, Wt3, Wt4, Wm, Wn, An1). No condition beyond those that each theorem states.
-/
import Derived.Test.YtfmfnfmhknlpbaaP09
namespace Go.Proofs.Ytfmfnfmhknlpbaa
section
open Go.RowKit Go.Deep

set_option maxRecDepth 100000 in
set_option maxHeartbeats 12800000 in
theorem Terms_1 (w : World) (s r c : Nat) (x4 x5 x6 x7 x8 x9 x10 x11 x12 : ByteArray) (hF : (Mg.mk 1 s r c x4 x5 x6 x7 x8 x9 x10 x11 x12).Fine) :
    Calls Try.prog 37 #[.agg #[.int .i64 1, .int .u32 (s : Nat), .int .u32 (r : Nat), .int .u64 (c : Nat), .string x4, .string x5, .string x6, .string x7, .string x8, .string x9, .string x10, .string x11, .string x12]] w (TermsPost (Mg.mk 1 s r c x4 x5 x6 x7 x8 x9 x10 x11 x12) w) := by
  have hst := fun (W : World) (a : Addr) (fn : Fn) (c : Array Value) => (run_store Try.prog W a (.func fn #[] c) .plain rfl : (store a (.func fn #[] c)).run Try.prog W = stored Try.prog W a (.func fn #[] c) .plain)
  have hsn := fun (W : World) (a : Addr) => (run_store Try.prog W a .nilFunc .plain rfl : (store a .nilFunc).run Try.prog W = stored Try.prog W a .nilFunc .plain)
  have HP := hide (fun W => proper_1 W s r c x4 x5 x6 x7 x8 x9 x10 x11 x12 hF)
  unfold PropPost at HP
  obtain ⟨hs, hr, hc, hx4, hx5, hx6, hx7, hx8, hx9, hx10, hx11, hx12⟩ := hF
  simp only at hs hr hc hx4 hx5 hx6 hx7 hx8 hx9 hx10 hx11 hx12
  have HMB := hide (Blk.new w 27 #[.int .i64 1, .int .u32 (s : Nat), .int .u32 (r : Nat), .int .u64 (c : Nat), .string x4, .string x5, .string x6, .string x7, .string x8, .string x9, .string x10, .string x11, .string x12])
  have HO := hide ((Only.refl [] w).alloc (.cells #[.int .i64 1, .int .u32 (s : Nat), .int .u32 (r : Nat), .int .u64 (c : Nat), .string x4, .string x5, .string x6, .string x7, .string x8, .string x9, .string x10, .string x11, .string x12] 27))
  have m0 := HMB.out.cell 0; have m1 := HMB.out.cell 1; have m2 := HMB.out.cell 2; have m3 := HMB.out.cell 3; have m4 := HMB.out.cell 4; have m5 := HMB.out.cell 5; have m6 := HMB.out.cell 6; have m7 := HMB.out.cell 7; have m8 := HMB.out.cell 8; have m9 := HMB.out.cell 9; have m10 := HMB.out.cell 10; have m11 := HMB.out.cell 11; have m12 := HMB.out.cell 12; simp at m0 m1 m2 m3 m4 m5 m6 m7 m8 m9 m10 m11 m12
  cases hB : rightM (Mg.mk 1 s r c x4 x5 x6 x7 x8 x9 x10 x11 x12)
  case false =>
    rw [hB] at HP
    have HV := hide hB
    clear hB
    go_enter Try.func37, Try.ntmps37
    go_wp2_with (go_at_call 33; refine (HP.out _).mono ?_; rintro e w1 ⟨fv, rfl, ho, _⟩; replace HO := hide (HO.out.trans ho); clear ho)
    go_ret
    exact terms_no HV.out HO.out
  rw [hB] at HP
  have HV := hide hB
  have hz4 : x4.size ≤ 65535 := fit_size (by have h := hB; simp [rightM, textsM] at h; simp [h])
  have hz5 : x5.size ≤ 65535 := fit_size (by have h := hB; simp [rightM, textsM] at h; simp [h])
  have hz6 : x6.size ≤ 65535 := fit_size (by have h := hB; simp [rightM, textsM] at h; simp [h])
  have hz11 : x11.size ≤ 65535 := fit_size (by have h := hB; simp [rightM, textsM] at h; simp [h])
  have hz12 : x12.size ≤ 65535 := fit_size (by have h := hB; simp [rightM, textsM] at h; simp [h])
  clear hB
  obtain ⟨is, his, hs0, hs1, hs2⟩ := info_parts (show (Try.prog.info? 9).map (fun i => (i.zero, i.size, i.bytes)) = some (some (.string ByteArray.empty), 1, 16) by kernel_rfl)
  go_enter Try.func37, Try.ntmps37
  go_upto_region 6 with (go_at_call 33; refine (HP.out _).mono ?_; rintro e w1 ⟨fv, rfl, ho, hz⟩; obtain ⟨g, b1, b2, rfl, hg, hb1, hb2, hrow, hx1, hx2⟩ := hz (by trivial); rw [World.size_alloc] at hg hb1 hb2; have HROW := hide hrow; replace HMB := hide (HMB.out.only ho (by simp)); replace HO := hide (HO.out.trans ho); clear hg hb1 hb2 hrow hx1 hx2 ho hz m0 m1 m2 m3 m4 m5 m6 m7 m8 m9 m10 m11 m12)
  have HD := hide (show w.heap.size < w1.heap.size ∧ g < w1.heap.size from ⟨HMB.out.lt, HROW.out.lt⟩)
  have HOW := hide (show w1.ownsRow w1.heap.size 9 1 (.slice none 0 0) 0 (strc []) from ⟨rfl, .inl ⟨rfl, rfl⟩⟩)
  have HBV := hide (Nat.le_refl w1.heap.size)
  obtain ⟨B0, hB0⟩ : ∃ B0, B0 = w1.heap.size := ⟨_, rfl⟩
  have HBV := hide (show B0 ≤ w1.heap.size by omega)
  rw [← hB0] at HD HOW
  clear hB0
  obtain ⟨v0, rfl⟩ : ∃ v0, v0 = w1 := ⟨w1, rfl⟩
  refine wp_loop_rounds 7 ?_
  rw [rounds_succ]
  have a0 := HROW.out.cell 0; have a1 := HROW.out.cell 1; have a2 := HROW.out.cell 2; have a3 := HROW.out.cell 3
  simp [row1C, numC, txtC] at a0 a1 a2 a3
  go_upto_region 8 with fail
  have HF := hide (Blk.new v0 63 #[.int .i64 4, .func (.func 70) #[] #[.pointer (some ⟨b1, 0, none⟩)], .func (.func 71) #[] #[.pointer (some ⟨b1, 0, none⟩)], .nilFunc])
  replace HBV := hide (show B0 ≤ (v0.alloc (.cells #[.int .i64 4, .func (.func 70) #[] #[.pointer (some ⟨b1, 0, none⟩)], .func (.func 71) #[] #[.pointer (some ⟨b1, 0, none⟩)], .nilFunc] 63)).heap.size by have := HBV.out; simp; omega)
  replace HMB := hide (HMB.out.alloc (.cells #[.int .i64 4, .func (.func 70) #[] #[.pointer (some ⟨b1, 0, none⟩)], .func (.func 71) #[] #[.pointer (some ⟨b1, 0, none⟩)], .nilFunc] 63))
  replace HROW := hide (HROW.out.alloc (.cells #[.int .i64 4, .func (.func 70) #[] #[.pointer (some ⟨b1, 0, none⟩)], .func (.func 71) #[] #[.pointer (some ⟨b1, 0, none⟩)], .nilFunc] 63))
  replace HO := hide (HO.out.alloc (.cells #[.int .i64 4, .func (.func 70) #[] #[.pointer (some ⟨b1, 0, none⟩)], .func (.func 71) #[] #[.pointer (some ⟨b1, 0, none⟩)], .nilFunc] 63))
  replace HOW := hide (World.ownsRow.alloc HOW.out (.cells #[.int .i64 4, .func (.func 70) #[] #[.pointer (some ⟨b1, 0, none⟩)], .func (.func 71) #[] #[.pointer (some ⟨b1, 0, none⟩)], .nilFunc] 63))
  generalize (v0.alloc (.cells #[.int .i64 4, .func (.func 70) #[] #[.pointer (some ⟨b1, 0, none⟩)], .func (.func 71) #[] #[.pointer (some ⟨b1, 0, none⟩)], .nilFunc] 63)) = u0 at *
  have f0 := HF.out.cell 0; have f1 := HF.out.cell 1; have f2 := HF.out.cell 2; have f3 := HF.out.cell 3; simp at f0 f1 f2 f3
  have mi := HMB.out.cell 1; simp at mi
  clear a0 a1 a2 a3
  go_wp2_with fail
  obtain ⟨v1, rfl⟩ : ∃ v, v = u0 := ⟨u0, rfl⟩
  clear f0 f1 f2 f3 mi HF
  rw [rounds_succ]
  have a0 := HROW.out.cell 4; have a1 := HROW.out.cell 5; have a2 := HROW.out.cell 6; have a3 := HROW.out.cell 7
  simp [row1C, numC, txtC] at a0 a1 a2 a3
  go_upto_region 8 with fail
  have HF := hide (Blk.new v1 63 #[.int .i64 0, .nilFunc, .nilFunc, .func (.func 49) #[] #[]])
  replace HBV := hide (show B0 ≤ (v1.alloc (.cells #[.int .i64 0, .nilFunc, .nilFunc, .func (.func 49) #[] #[]] 63)).heap.size by have := HBV.out; simp; omega)
  replace HMB := hide (HMB.out.alloc (.cells #[.int .i64 0, .nilFunc, .nilFunc, .func (.func 49) #[] #[]] 63))
  replace HROW := hide (HROW.out.alloc (.cells #[.int .i64 0, .nilFunc, .nilFunc, .func (.func 49) #[] #[]] 63))
  replace HO := hide (HO.out.alloc (.cells #[.int .i64 0, .nilFunc, .nilFunc, .func (.func 49) #[] #[]] 63))
  replace HOW := hide (World.ownsRow.alloc HOW.out (.cells #[.int .i64 0, .nilFunc, .nilFunc, .func (.func 49) #[] #[]] 63))
  generalize (v1.alloc (.cells #[.int .i64 0, .nilFunc, .nilFunc, .func (.func 49) #[] #[]] 63)) = u1 at *
  have f0 := HF.out.cell 0; have f1 := HF.out.cell 1; have f2 := HF.out.cell 2; have f3 := HF.out.cell 3; simp at f0 f1 f2 f3
  have mi := HMB.out.cell 4; simp at mi
  clear a0 a1 a2 a3
  have HRN := hide (reads_one u1 9 (.string x4) (u1.heap.size + 1) (Nat.lt_succ_self _))
  replace HMB := hide (HMB.out.alloc (.cells #[.string x4] 9))
  replace HROW := hide (HROW.out.alloc (.cells #[.string x4] 9))
  replace HO := hide (HO.out.alloc (.cells #[.string x4] 9))
  replace HOW := hide (World.ownsRow.alloc HOW.out (.cells #[.string x4] 9))
  replace HBV := hide (show B0 ≤ (u1.alloc (.cells #[.string x4] 9)).heap.size by have := HBV.out; simp; omega)
  go_wp2_with (first | (go_at_call 49; refine (place4 _ _).mono ?_; rintro e w4 ⟨rfl, rfl⟩) | (at_builtin; refine wpList_append_any _ rfl (.tmp 24) (.tmp 30) 50 rfl B0 9 is (.string ByteArray.empty) 1 16 Try.underlying50 his hs0 hs1 hs2 rfl (by decide) _ 0 _ rfl HOW.out _ _ 1 1 [.string x4] rfl HRN.out (by simp [Value.oneCell']) (by unfold maxLen; omega) (by omega) HBV.out ?_; intro vv v2 hown1 hg1 _; have hbel := below_row hg1 (fun jj hjj => own_block_ge HOW.out hjj) HBV.out; replace HOW := hide (show v2.ownsRow B0 9 1 vv 1 (strc [x4]) from hown1); replace HMB := hide (HMB.out.below hbel (by have := HD.out; omega)); replace HROW := hide (HROW.out.below hbel (by have := HD.out; omega)); replace HO := hide (only_below HO.out hbel (by have := HD.out; omega)); replace HBV := hide (Nat.le_trans HBV.out hbel.size); clear hown1 hg1 hbel))
  clear f0 f1 f2 f3 mi HF HRN
  rw [rounds_succ]
  have a0 := HROW.out.cell 8; have a1 := HROW.out.cell 9; have a2 := HROW.out.cell 10; have a3 := HROW.out.cell 11
  simp [row1C, numC, txtC] at a0 a1 a2 a3
  go_upto_region 8 with fail
  have HF := hide (Blk.new v2 63 #[.int .i64 0, .nilFunc, .nilFunc, .func (.func 52) #[] #[]])
  replace HBV := hide (show B0 ≤ (v2.alloc (.cells #[.int .i64 0, .nilFunc, .nilFunc, .func (.func 52) #[] #[]] 63)).heap.size by have := HBV.out; simp; omega)
  replace HMB := hide (HMB.out.alloc (.cells #[.int .i64 0, .nilFunc, .nilFunc, .func (.func 52) #[] #[]] 63))
  replace HROW := hide (HROW.out.alloc (.cells #[.int .i64 0, .nilFunc, .nilFunc, .func (.func 52) #[] #[]] 63))
  replace HO := hide (HO.out.alloc (.cells #[.int .i64 0, .nilFunc, .nilFunc, .func (.func 52) #[] #[]] 63))
  replace HOW := hide (World.ownsRow.alloc HOW.out (.cells #[.int .i64 0, .nilFunc, .nilFunc, .func (.func 52) #[] #[]] 63))
  generalize (v2.alloc (.cells #[.int .i64 0, .nilFunc, .nilFunc, .func (.func 52) #[] #[]] 63)) = u2 at *
  have f0 := HF.out.cell 0; have f1 := HF.out.cell 1; have f2 := HF.out.cell 2; have f3 := HF.out.cell 3; simp at f0 f1 f2 f3
  have mi := HMB.out.cell 5; simp at mi
  clear a0 a1 a2 a3
  obtain ⟨A2, c2, rfl, _, _⟩ := own_form HOW.out
  have HRN := hide (reads_one u2 9 (.string x5) (u2.heap.size + 1) (Nat.lt_succ_self _))
  replace HMB := hide (HMB.out.alloc (.cells #[.string x5] 9))
  replace HROW := hide (HROW.out.alloc (.cells #[.string x5] 9))
  replace HO := hide (HO.out.alloc (.cells #[.string x5] 9))
  replace HOW := hide (World.ownsRow.alloc HOW.out (.cells #[.string x5] 9))
  replace HBV := hide (show B0 ≤ (u2.alloc (.cells #[.string x5] 9)).heap.size by have := HBV.out; simp; omega)
  go_wp2_with (first | (go_at_call 52; refine (place5 _ _).mono ?_; rintro e w4 ⟨rfl, rfl⟩) | (at_builtin; refine wpList_append_any _ rfl (.tmp 24) (.tmp 30) 50 rfl B0 9 is (.string ByteArray.empty) 1 16 Try.underlying50 his hs0 hs1 hs2 rfl (by decide) _ 1 _ rfl HOW.out _ _ 1 1 [.string x5] rfl HRN.out (by simp [Value.oneCell']) (by unfold maxLen; omega) (by omega) HBV.out ?_; intro vv v3 hown1 hg1 _; have hbel := below_row hg1 (fun jj hjj => own_block_ge HOW.out hjj) HBV.out; replace HOW := hide (show v3.ownsRow B0 9 1 vv 2 (strc [x4, x5]) from hown1); replace HMB := hide (HMB.out.below hbel (by have := HD.out; omega)); replace HROW := hide (HROW.out.below hbel (by have := HD.out; omega)); replace HO := hide (only_below HO.out hbel (by have := HD.out; omega)); replace HBV := hide (Nat.le_trans HBV.out hbel.size); clear hown1 hg1 hbel))
  clear f0 f1 f2 f3 mi HF HRN
  rw [rounds_succ]
  have a0 := HROW.out.cell 12; have a1 := HROW.out.cell 13; have a2 := HROW.out.cell 14; have a3 := HROW.out.cell 15
  simp [row1C, numC, txtC] at a0 a1 a2 a3
  go_upto_region 8 with fail
  have HF := hide (Blk.new v3 63 #[.int .i64 0, .nilFunc, .nilFunc, .func (.func 53) #[] #[]])
  replace HBV := hide (show B0 ≤ (v3.alloc (.cells #[.int .i64 0, .nilFunc, .nilFunc, .func (.func 53) #[] #[]] 63)).heap.size by have := HBV.out; simp; omega)
  replace HMB := hide (HMB.out.alloc (.cells #[.int .i64 0, .nilFunc, .nilFunc, .func (.func 53) #[] #[]] 63))
  replace HROW := hide (HROW.out.alloc (.cells #[.int .i64 0, .nilFunc, .nilFunc, .func (.func 53) #[] #[]] 63))
  replace HO := hide (HO.out.alloc (.cells #[.int .i64 0, .nilFunc, .nilFunc, .func (.func 53) #[] #[]] 63))
  replace HOW := hide (World.ownsRow.alloc HOW.out (.cells #[.int .i64 0, .nilFunc, .nilFunc, .func (.func 53) #[] #[]] 63))
  generalize (v3.alloc (.cells #[.int .i64 0, .nilFunc, .nilFunc, .func (.func 53) #[] #[]] 63)) = u3 at *
  have f0 := HF.out.cell 0; have f1 := HF.out.cell 1; have f2 := HF.out.cell 2; have f3 := HF.out.cell 3; simp at f0 f1 f2 f3
  have mi := HMB.out.cell 6; simp at mi
  clear a0 a1 a2 a3
  obtain ⟨A3, c3, rfl, _, _⟩ := own_form HOW.out
  have HRN := hide (reads_one u3 9 (.string x6) (u3.heap.size + 1) (Nat.lt_succ_self _))
  replace HMB := hide (HMB.out.alloc (.cells #[.string x6] 9))
  replace HROW := hide (HROW.out.alloc (.cells #[.string x6] 9))
  replace HO := hide (HO.out.alloc (.cells #[.string x6] 9))
  replace HOW := hide (World.ownsRow.alloc HOW.out (.cells #[.string x6] 9))
  replace HBV := hide (show B0 ≤ (u3.alloc (.cells #[.string x6] 9)).heap.size by have := HBV.out; simp; omega)
  go_wp2_with (first | (go_at_call 53; refine (place6 _ _).mono ?_; rintro e w4 ⟨rfl, rfl⟩) | (at_builtin; refine wpList_append_any _ rfl (.tmp 24) (.tmp 30) 50 rfl B0 9 is (.string ByteArray.empty) 1 16 Try.underlying50 his hs0 hs1 hs2 rfl (by decide) _ 2 _ rfl HOW.out _ _ 1 1 [.string x6] rfl HRN.out (by simp [Value.oneCell']) (by unfold maxLen; omega) (by omega) HBV.out ?_; intro vv v4 hown1 hg1 _; have hbel := below_row hg1 (fun jj hjj => own_block_ge HOW.out hjj) HBV.out; replace HOW := hide (show v4.ownsRow B0 9 1 vv 3 (strc [x4, x5, x6]) from hown1); replace HMB := hide (HMB.out.below hbel (by have := HD.out; omega)); replace HROW := hide (HROW.out.below hbel (by have := HD.out; omega)); replace HO := hide (only_below HO.out hbel (by have := HD.out; omega)); replace HBV := hide (Nat.le_trans HBV.out hbel.size); clear hown1 hg1 hbel))
  clear f0 f1 f2 f3 mi HF HRN
  rw [rounds_succ]
  have a0 := HROW.out.cell 16; have a1 := HROW.out.cell 17; have a2 := HROW.out.cell 18; have a3 := HROW.out.cell 19
  simp [row1C, numC, txtC] at a0 a1 a2 a3
  go_upto_region 8 with fail
  have HF := hide (Blk.new v4 63 #[.int .i64 0, .nilFunc, .nilFunc, .func (.func 50) #[] #[]])
  replace HBV := hide (show B0 ≤ (v4.alloc (.cells #[.int .i64 0, .nilFunc, .nilFunc, .func (.func 50) #[] #[]] 63)).heap.size by have := HBV.out; simp; omega)
  replace HMB := hide (HMB.out.alloc (.cells #[.int .i64 0, .nilFunc, .nilFunc, .func (.func 50) #[] #[]] 63))
  replace HROW := hide (HROW.out.alloc (.cells #[.int .i64 0, .nilFunc, .nilFunc, .func (.func 50) #[] #[]] 63))
  replace HO := hide (HO.out.alloc (.cells #[.int .i64 0, .nilFunc, .nilFunc, .func (.func 50) #[] #[]] 63))
  replace HOW := hide (World.ownsRow.alloc HOW.out (.cells #[.int .i64 0, .nilFunc, .nilFunc, .func (.func 50) #[] #[]] 63))
  generalize (v4.alloc (.cells #[.int .i64 0, .nilFunc, .nilFunc, .func (.func 50) #[] #[]] 63)) = u4 at *
  have f0 := HF.out.cell 0; have f1 := HF.out.cell 1; have f2 := HF.out.cell 2; have f3 := HF.out.cell 3; simp at f0 f1 f2 f3
  have mi := HMB.out.cell 11; simp at mi
  clear a0 a1 a2 a3
  obtain ⟨A4, c4, rfl, _, _⟩ := own_form HOW.out
  have HRN := hide (reads_one u4 9 (.string x11) (u4.heap.size + 1) (Nat.lt_succ_self _))
  replace HMB := hide (HMB.out.alloc (.cells #[.string x11] 9))
  replace HROW := hide (HROW.out.alloc (.cells #[.string x11] 9))
  replace HO := hide (HO.out.alloc (.cells #[.string x11] 9))
  replace HOW := hide (World.ownsRow.alloc HOW.out (.cells #[.string x11] 9))
  replace HBV := hide (show B0 ≤ (u4.alloc (.cells #[.string x11] 9)).heap.size by have := HBV.out; simp; omega)
  go_wp2_with (first | (go_at_call 50; refine (place11 _ _).mono ?_; rintro e w4 ⟨rfl, rfl⟩) | (at_builtin; refine wpList_append_any _ rfl (.tmp 24) (.tmp 30) 50 rfl B0 9 is (.string ByteArray.empty) 1 16 Try.underlying50 his hs0 hs1 hs2 rfl (by decide) _ 3 _ rfl HOW.out _ _ 1 1 [.string x11] rfl HRN.out (by simp [Value.oneCell']) (by unfold maxLen; omega) (by omega) HBV.out ?_; intro vv v5 hown1 hg1 _; have hbel := below_row hg1 (fun jj hjj => own_block_ge HOW.out hjj) HBV.out; replace HOW := hide (show v5.ownsRow B0 9 1 vv 4 (strc [x4, x5, x6, x11]) from hown1); replace HMB := hide (HMB.out.below hbel (by have := HD.out; omega)); replace HROW := hide (HROW.out.below hbel (by have := HD.out; omega)); replace HO := hide (only_below HO.out hbel (by have := HD.out; omega)); replace HBV := hide (Nat.le_trans HBV.out hbel.size); clear hown1 hg1 hbel))
  clear f0 f1 f2 f3 mi HF HRN
  rw [rounds_succ]
  have a0 := HROW.out.cell 20; have a1 := HROW.out.cell 21; have a2 := HROW.out.cell 22; have a3 := HROW.out.cell 23
  simp [row1C, numC, txtC] at a0 a1 a2 a3
  go_upto_region 8 with fail
  have HF := hide (Blk.new v5 63 #[.int .i64 0, .nilFunc, .nilFunc, .func (.func 51) #[] #[]])
  replace HBV := hide (show B0 ≤ (v5.alloc (.cells #[.int .i64 0, .nilFunc, .nilFunc, .func (.func 51) #[] #[]] 63)).heap.size by have := HBV.out; simp; omega)
  replace HMB := hide (HMB.out.alloc (.cells #[.int .i64 0, .nilFunc, .nilFunc, .func (.func 51) #[] #[]] 63))
  replace HROW := hide (HROW.out.alloc (.cells #[.int .i64 0, .nilFunc, .nilFunc, .func (.func 51) #[] #[]] 63))
  replace HO := hide (HO.out.alloc (.cells #[.int .i64 0, .nilFunc, .nilFunc, .func (.func 51) #[] #[]] 63))
  replace HOW := hide (World.ownsRow.alloc HOW.out (.cells #[.int .i64 0, .nilFunc, .nilFunc, .func (.func 51) #[] #[]] 63))
  generalize (v5.alloc (.cells #[.int .i64 0, .nilFunc, .nilFunc, .func (.func 51) #[] #[]] 63)) = u5 at *
  have f0 := HF.out.cell 0; have f1 := HF.out.cell 1; have f2 := HF.out.cell 2; have f3 := HF.out.cell 3; simp at f0 f1 f2 f3
  have mi := HMB.out.cell 12; simp at mi
  clear a0 a1 a2 a3
  obtain ⟨A5, c5, rfl, _, _⟩ := own_form HOW.out
  have HRN := hide (reads_one u5 9 (.string x12) (u5.heap.size + 1) (Nat.lt_succ_self _))
  replace HMB := hide (HMB.out.alloc (.cells #[.string x12] 9))
  replace HROW := hide (HROW.out.alloc (.cells #[.string x12] 9))
  replace HO := hide (HO.out.alloc (.cells #[.string x12] 9))
  replace HOW := hide (World.ownsRow.alloc HOW.out (.cells #[.string x12] 9))
  replace HBV := hide (show B0 ≤ (u5.alloc (.cells #[.string x12] 9)).heap.size by have := HBV.out; simp; omega)
  go_wp2_with (first | (go_at_call 51; refine (place12 _ _).mono ?_; rintro e w4 ⟨rfl, rfl⟩) | (at_builtin; refine wpList_append_any _ rfl (.tmp 24) (.tmp 30) 50 rfl B0 9 is (.string ByteArray.empty) 1 16 Try.underlying50 his hs0 hs1 hs2 rfl (by decide) _ 4 _ rfl HOW.out _ _ 1 1 [.string x12] rfl HRN.out (by simp [Value.oneCell']) (by unfold maxLen; omega) (by omega) HBV.out ?_; intro vv v6 hown1 hg1 _; have hbel := below_row hg1 (fun jj hjj => own_block_ge HOW.out hjj) HBV.out; replace HOW := hide (show v6.ownsRow B0 9 1 vv 5 (strc [x4, x5, x6, x11, x12]) from hown1); replace HMB := hide (HMB.out.below hbel (by have := HD.out; omega)); replace HROW := hide (HROW.out.below hbel (by have := HD.out; omega)); replace HO := hide (only_below HO.out hbel (by have := HD.out; omega)); replace HBV := hide (Nat.le_trans HBV.out hbel.size); clear hown1 hg1 hbel))
  clear f0 f1 f2 f3 mi HF HRN
  rw [rounds_succ]
  obtain ⟨Az, cz, rfl, _, _⟩ := own_form HOW.out
  go_wp2_with fail
  go_ret
  exact terms_yes HV.out rfl HO.out HOW.out
end
section
open Go.RowKit Go.Deep

set_option maxRecDepth 100000 in
set_option maxHeartbeats 12800000 in
theorem Terms_2 (w : World) (s r c : Nat) (x4 x5 x6 x7 x8 x9 x10 x11 x12 : ByteArray) (hF : (Mg.mk 2 s r c x4 x5 x6 x7 x8 x9 x10 x11 x12).Fine) :
    Calls Try.prog 37 #[.agg #[.int .i64 2, .int .u32 (s : Nat), .int .u32 (r : Nat), .int .u64 (c : Nat), .string x4, .string x5, .string x6, .string x7, .string x8, .string x9, .string x10, .string x11, .string x12]] w (TermsPost (Mg.mk 2 s r c x4 x5 x6 x7 x8 x9 x10 x11 x12) w) := by
  have hst := fun (W : World) (a : Addr) (fn : Fn) (c : Array Value) => (run_store Try.prog W a (.func fn #[] c) .plain rfl : (store a (.func fn #[] c)).run Try.prog W = stored Try.prog W a (.func fn #[] c) .plain)
  have hsn := fun (W : World) (a : Addr) => (run_store Try.prog W a .nilFunc .plain rfl : (store a .nilFunc).run Try.prog W = stored Try.prog W a .nilFunc .plain)
  have HP := hide (fun W => proper_2 W s r c x4 x5 x6 x7 x8 x9 x10 x11 x12 hF)
  unfold PropPost at HP
  obtain ⟨hs, hr, hc, hx4, hx5, hx6, hx7, hx8, hx9, hx10, hx11, hx12⟩ := hF
  simp only at hs hr hc hx4 hx5 hx6 hx7 hx8 hx9 hx10 hx11 hx12
  have HMB := hide (Blk.new w 27 #[.int .i64 2, .int .u32 (s : Nat), .int .u32 (r : Nat), .int .u64 (c : Nat), .string x4, .string x5, .string x6, .string x7, .string x8, .string x9, .string x10, .string x11, .string x12])
  have HO := hide ((Only.refl [] w).alloc (.cells #[.int .i64 2, .int .u32 (s : Nat), .int .u32 (r : Nat), .int .u64 (c : Nat), .string x4, .string x5, .string x6, .string x7, .string x8, .string x9, .string x10, .string x11, .string x12] 27))
  have m0 := HMB.out.cell 0; have m1 := HMB.out.cell 1; have m2 := HMB.out.cell 2; have m3 := HMB.out.cell 3; have m4 := HMB.out.cell 4; have m5 := HMB.out.cell 5; have m6 := HMB.out.cell 6; have m7 := HMB.out.cell 7; have m8 := HMB.out.cell 8; have m9 := HMB.out.cell 9; have m10 := HMB.out.cell 10; have m11 := HMB.out.cell 11; have m12 := HMB.out.cell 12; simp at m0 m1 m2 m3 m4 m5 m6 m7 m8 m9 m10 m11 m12
  cases hB : rightM (Mg.mk 2 s r c x4 x5 x6 x7 x8 x9 x10 x11 x12)
  case false =>
    rw [hB] at HP
    have HV := hide hB
    clear hB
    go_enter Try.func37, Try.ntmps37
    go_wp2_with (go_at_call 33; refine (HP.out _).mono ?_; rintro e w1 ⟨fv, rfl, ho, _⟩; replace HO := hide (HO.out.trans ho); clear ho)
    go_ret
    exact terms_no HV.out HO.out
  rw [hB] at HP
  have HV := hide hB
  have hz4 : x4.size ≤ 65535 := fit_size (by have h := hB; simp [rightM, textsM] at h; simp [h])
  have hz7 : x7.size ≤ 65535 := fit_size (by have h := hB; simp [rightM, textsM] at h; simp [h])
  have hz11 : x11.size ≤ 65535 := fit_size (by have h := hB; simp [rightM, textsM] at h; simp [h])
  have hz12 : x12.size ≤ 65535 := fit_size (by have h := hB; simp [rightM, textsM] at h; simp [h])
  clear hB
  obtain ⟨is, his, hs0, hs1, hs2⟩ := info_parts (show (Try.prog.info? 9).map (fun i => (i.zero, i.size, i.bytes)) = some (some (.string ByteArray.empty), 1, 16) by kernel_rfl)
  go_enter Try.func37, Try.ntmps37
  go_upto_region 6 with (go_at_call 33; refine (HP.out _).mono ?_; rintro e w1 ⟨fv, rfl, ho, hz⟩; obtain ⟨g, b1, b2, rfl, hg, hb1, hb2, hrow, hx1, hx2⟩ := hz (by trivial); rw [World.size_alloc] at hg hb1 hb2; have HROW := hide hrow; replace HMB := hide (HMB.out.only ho (by simp)); replace HO := hide (HO.out.trans ho); clear hg hb1 hb2 hrow hx1 hx2 ho hz m0 m1 m2 m3 m4 m5 m6 m7 m8 m9 m10 m11 m12)
  have HD := hide (show w.heap.size < w1.heap.size ∧ g < w1.heap.size from ⟨HMB.out.lt, HROW.out.lt⟩)
  have HOW := hide (show w1.ownsRow w1.heap.size 9 1 (.slice none 0 0) 0 (strc []) from ⟨rfl, .inl ⟨rfl, rfl⟩⟩)
  have HBV := hide (Nat.le_refl w1.heap.size)
  obtain ⟨B0, hB0⟩ : ∃ B0, B0 = w1.heap.size := ⟨_, rfl⟩
  have HBV := hide (show B0 ≤ w1.heap.size by omega)
  rw [← hB0] at HD HOW
  clear hB0
  obtain ⟨v0, rfl⟩ : ∃ v0, v0 = w1 := ⟨w1, rfl⟩
  refine wp_loop_rounds 7 ?_
  rw [rounds_succ]
  have a0 := HROW.out.cell 0; have a1 := HROW.out.cell 1; have a2 := HROW.out.cell 2; have a3 := HROW.out.cell 3
  simp [row2C, numC, txtC] at a0 a1 a2 a3
  go_upto_region 8 with fail
  have HF := hide (Blk.new v0 63 #[.int .i64 4, .func (.func 70) #[] #[.pointer (some ⟨b1, 0, none⟩)], .func (.func 71) #[] #[.pointer (some ⟨b1, 0, none⟩)], .nilFunc])
  replace HBV := hide (show B0 ≤ (v0.alloc (.cells #[.int .i64 4, .func (.func 70) #[] #[.pointer (some ⟨b1, 0, none⟩)], .func (.func 71) #[] #[.pointer (some ⟨b1, 0, none⟩)], .nilFunc] 63)).heap.size by have := HBV.out; simp; omega)
  replace HMB := hide (HMB.out.alloc (.cells #[.int .i64 4, .func (.func 70) #[] #[.pointer (some ⟨b1, 0, none⟩)], .func (.func 71) #[] #[.pointer (some ⟨b1, 0, none⟩)], .nilFunc] 63))
  replace HROW := hide (HROW.out.alloc (.cells #[.int .i64 4, .func (.func 70) #[] #[.pointer (some ⟨b1, 0, none⟩)], .func (.func 71) #[] #[.pointer (some ⟨b1, 0, none⟩)], .nilFunc] 63))
  replace HO := hide (HO.out.alloc (.cells #[.int .i64 4, .func (.func 70) #[] #[.pointer (some ⟨b1, 0, none⟩)], .func (.func 71) #[] #[.pointer (some ⟨b1, 0, none⟩)], .nilFunc] 63))
  replace HOW := hide (World.ownsRow.alloc HOW.out (.cells #[.int .i64 4, .func (.func 70) #[] #[.pointer (some ⟨b1, 0, none⟩)], .func (.func 71) #[] #[.pointer (some ⟨b1, 0, none⟩)], .nilFunc] 63))
  generalize (v0.alloc (.cells #[.int .i64 4, .func (.func 70) #[] #[.pointer (some ⟨b1, 0, none⟩)], .func (.func 71) #[] #[.pointer (some ⟨b1, 0, none⟩)], .nilFunc] 63)) = u0 at *
  have f0 := HF.out.cell 0; have f1 := HF.out.cell 1; have f2 := HF.out.cell 2; have f3 := HF.out.cell 3; simp at f0 f1 f2 f3
  have mi := HMB.out.cell 1; simp at mi
  clear a0 a1 a2 a3
  go_wp2_with fail
  obtain ⟨v1, rfl⟩ : ∃ v, v = u0 := ⟨u0, rfl⟩
  clear f0 f1 f2 f3 mi HF
  rw [rounds_succ]
  have a0 := HROW.out.cell 4; have a1 := HROW.out.cell 5; have a2 := HROW.out.cell 6; have a3 := HROW.out.cell 7
  simp [row2C, numC, txtC] at a0 a1 a2 a3
  go_upto_region 8 with fail
  have HF := hide (Blk.new v1 63 #[.int .i64 4, .func (.func 70) #[] #[.pointer (some ⟨b2, 0, none⟩)], .func (.func 71) #[] #[.pointer (some ⟨b2, 0, none⟩)], .nilFunc])
  replace HBV := hide (show B0 ≤ (v1.alloc (.cells #[.int .i64 4, .func (.func 70) #[] #[.pointer (some ⟨b2, 0, none⟩)], .func (.func 71) #[] #[.pointer (some ⟨b2, 0, none⟩)], .nilFunc] 63)).heap.size by have := HBV.out; simp; omega)
  replace HMB := hide (HMB.out.alloc (.cells #[.int .i64 4, .func (.func 70) #[] #[.pointer (some ⟨b2, 0, none⟩)], .func (.func 71) #[] #[.pointer (some ⟨b2, 0, none⟩)], .nilFunc] 63))
  replace HROW := hide (HROW.out.alloc (.cells #[.int .i64 4, .func (.func 70) #[] #[.pointer (some ⟨b2, 0, none⟩)], .func (.func 71) #[] #[.pointer (some ⟨b2, 0, none⟩)], .nilFunc] 63))
  replace HO := hide (HO.out.alloc (.cells #[.int .i64 4, .func (.func 70) #[] #[.pointer (some ⟨b2, 0, none⟩)], .func (.func 71) #[] #[.pointer (some ⟨b2, 0, none⟩)], .nilFunc] 63))
  replace HOW := hide (World.ownsRow.alloc HOW.out (.cells #[.int .i64 4, .func (.func 70) #[] #[.pointer (some ⟨b2, 0, none⟩)], .func (.func 71) #[] #[.pointer (some ⟨b2, 0, none⟩)], .nilFunc] 63))
  generalize (v1.alloc (.cells #[.int .i64 4, .func (.func 70) #[] #[.pointer (some ⟨b2, 0, none⟩)], .func (.func 71) #[] #[.pointer (some ⟨b2, 0, none⟩)], .nilFunc] 63)) = u1 at *
  have f0 := HF.out.cell 0; have f1 := HF.out.cell 1; have f2 := HF.out.cell 2; have f3 := HF.out.cell 3; simp at f0 f1 f2 f3
  have mi := HMB.out.cell 2; simp at mi
  clear a0 a1 a2 a3
  go_wp2_with fail
  obtain ⟨v2, rfl⟩ : ∃ v, v = u1 := ⟨u1, rfl⟩
  clear f0 f1 f2 f3 mi HF
  rw [rounds_succ]
  have a0 := HROW.out.cell 8; have a1 := HROW.out.cell 9; have a2 := HROW.out.cell 10; have a3 := HROW.out.cell 11
  simp [row2C, numC, txtC] at a0 a1 a2 a3
  go_upto_region 8 with fail
  have HF := hide (Blk.new v2 63 #[.int .i64 0, .nilFunc, .nilFunc, .func (.func 49) #[] #[]])
  replace HBV := hide (show B0 ≤ (v2.alloc (.cells #[.int .i64 0, .nilFunc, .nilFunc, .func (.func 49) #[] #[]] 63)).heap.size by have := HBV.out; simp; omega)
  replace HMB := hide (HMB.out.alloc (.cells #[.int .i64 0, .nilFunc, .nilFunc, .func (.func 49) #[] #[]] 63))
  replace HROW := hide (HROW.out.alloc (.cells #[.int .i64 0, .nilFunc, .nilFunc, .func (.func 49) #[] #[]] 63))
  replace HO := hide (HO.out.alloc (.cells #[.int .i64 0, .nilFunc, .nilFunc, .func (.func 49) #[] #[]] 63))
  replace HOW := hide (World.ownsRow.alloc HOW.out (.cells #[.int .i64 0, .nilFunc, .nilFunc, .func (.func 49) #[] #[]] 63))
  generalize (v2.alloc (.cells #[.int .i64 0, .nilFunc, .nilFunc, .func (.func 49) #[] #[]] 63)) = u2 at *
  have f0 := HF.out.cell 0; have f1 := HF.out.cell 1; have f2 := HF.out.cell 2; have f3 := HF.out.cell 3; simp at f0 f1 f2 f3
  have mi := HMB.out.cell 4; simp at mi
  clear a0 a1 a2 a3
  have HRN := hide (reads_one u2 9 (.string x4) (u2.heap.size + 1) (Nat.lt_succ_self _))
  replace HMB := hide (HMB.out.alloc (.cells #[.string x4] 9))
  replace HROW := hide (HROW.out.alloc (.cells #[.string x4] 9))
  replace HO := hide (HO.out.alloc (.cells #[.string x4] 9))
  replace HOW := hide (World.ownsRow.alloc HOW.out (.cells #[.string x4] 9))
  replace HBV := hide (show B0 ≤ (u2.alloc (.cells #[.string x4] 9)).heap.size by have := HBV.out; simp; omega)
  go_wp2_with (first | (go_at_call 49; refine (place4 _ _).mono ?_; rintro e w4 ⟨rfl, rfl⟩) | (at_builtin; refine wpList_append_any _ rfl (.tmp 24) (.tmp 30) 50 rfl B0 9 is (.string ByteArray.empty) 1 16 Try.underlying50 his hs0 hs1 hs2 rfl (by decide) _ 0 _ rfl HOW.out _ _ 1 1 [.string x4] rfl HRN.out (by simp [Value.oneCell']) (by unfold maxLen; omega) (by omega) HBV.out ?_; intro vv v3 hown1 hg1 _; have hbel := below_row hg1 (fun jj hjj => own_block_ge HOW.out hjj) HBV.out; replace HOW := hide (show v3.ownsRow B0 9 1 vv 1 (strc [x4]) from hown1); replace HMB := hide (HMB.out.below hbel (by have := HD.out; omega)); replace HROW := hide (HROW.out.below hbel (by have := HD.out; omega)); replace HO := hide (only_below HO.out hbel (by have := HD.out; omega)); replace HBV := hide (Nat.le_trans HBV.out hbel.size); clear hown1 hg1 hbel))
  clear f0 f1 f2 f3 mi HF HRN
  rw [rounds_succ]
  have a0 := HROW.out.cell 12; have a1 := HROW.out.cell 13; have a2 := HROW.out.cell 14; have a3 := HROW.out.cell 15
  simp [row2C, numC, txtC] at a0 a1 a2 a3
  go_upto_region 8 with fail
  have HF := hide (Blk.new v3 63 #[.int .i64 0, .nilFunc, .nilFunc, .func (.func 54) #[] #[]])
  replace HBV := hide (show B0 ≤ (v3.alloc (.cells #[.int .i64 0, .nilFunc, .nilFunc, .func (.func 54) #[] #[]] 63)).heap.size by have := HBV.out; simp; omega)
  replace HMB := hide (HMB.out.alloc (.cells #[.int .i64 0, .nilFunc, .nilFunc, .func (.func 54) #[] #[]] 63))
  replace HROW := hide (HROW.out.alloc (.cells #[.int .i64 0, .nilFunc, .nilFunc, .func (.func 54) #[] #[]] 63))
  replace HO := hide (HO.out.alloc (.cells #[.int .i64 0, .nilFunc, .nilFunc, .func (.func 54) #[] #[]] 63))
  replace HOW := hide (World.ownsRow.alloc HOW.out (.cells #[.int .i64 0, .nilFunc, .nilFunc, .func (.func 54) #[] #[]] 63))
  generalize (v3.alloc (.cells #[.int .i64 0, .nilFunc, .nilFunc, .func (.func 54) #[] #[]] 63)) = u3 at *
  have f0 := HF.out.cell 0; have f1 := HF.out.cell 1; have f2 := HF.out.cell 2; have f3 := HF.out.cell 3; simp at f0 f1 f2 f3
  have mi := HMB.out.cell 7; simp at mi
  clear a0 a1 a2 a3
  obtain ⟨A3, c3, rfl, _, _⟩ := own_form HOW.out
  have HRN := hide (reads_one u3 9 (.string x7) (u3.heap.size + 1) (Nat.lt_succ_self _))
  replace HMB := hide (HMB.out.alloc (.cells #[.string x7] 9))
  replace HROW := hide (HROW.out.alloc (.cells #[.string x7] 9))
  replace HO := hide (HO.out.alloc (.cells #[.string x7] 9))
  replace HOW := hide (World.ownsRow.alloc HOW.out (.cells #[.string x7] 9))
  replace HBV := hide (show B0 ≤ (u3.alloc (.cells #[.string x7] 9)).heap.size by have := HBV.out; simp; omega)
  go_wp2_with (first | (go_at_call 54; refine (place7 _ _).mono ?_; rintro e w4 ⟨rfl, rfl⟩) | (at_builtin; refine wpList_append_any _ rfl (.tmp 24) (.tmp 30) 50 rfl B0 9 is (.string ByteArray.empty) 1 16 Try.underlying50 his hs0 hs1 hs2 rfl (by decide) _ 1 _ rfl HOW.out _ _ 1 1 [.string x7] rfl HRN.out (by simp [Value.oneCell']) (by unfold maxLen; omega) (by omega) HBV.out ?_; intro vv v4 hown1 hg1 _; have hbel := below_row hg1 (fun jj hjj => own_block_ge HOW.out hjj) HBV.out; replace HOW := hide (show v4.ownsRow B0 9 1 vv 2 (strc [x4, x7]) from hown1); replace HMB := hide (HMB.out.below hbel (by have := HD.out; omega)); replace HROW := hide (HROW.out.below hbel (by have := HD.out; omega)); replace HO := hide (only_below HO.out hbel (by have := HD.out; omega)); replace HBV := hide (Nat.le_trans HBV.out hbel.size); clear hown1 hg1 hbel))
  clear f0 f1 f2 f3 mi HF HRN
  rw [rounds_succ]
  have a0 := HROW.out.cell 16; have a1 := HROW.out.cell 17; have a2 := HROW.out.cell 18; have a3 := HROW.out.cell 19
  simp [row2C, numC, txtC] at a0 a1 a2 a3
  go_upto_region 8 with fail
  have HF := hide (Blk.new v4 63 #[.int .i64 0, .nilFunc, .nilFunc, .func (.func 50) #[] #[]])
  replace HBV := hide (show B0 ≤ (v4.alloc (.cells #[.int .i64 0, .nilFunc, .nilFunc, .func (.func 50) #[] #[]] 63)).heap.size by have := HBV.out; simp; omega)
  replace HMB := hide (HMB.out.alloc (.cells #[.int .i64 0, .nilFunc, .nilFunc, .func (.func 50) #[] #[]] 63))
  replace HROW := hide (HROW.out.alloc (.cells #[.int .i64 0, .nilFunc, .nilFunc, .func (.func 50) #[] #[]] 63))
  replace HO := hide (HO.out.alloc (.cells #[.int .i64 0, .nilFunc, .nilFunc, .func (.func 50) #[] #[]] 63))
  replace HOW := hide (World.ownsRow.alloc HOW.out (.cells #[.int .i64 0, .nilFunc, .nilFunc, .func (.func 50) #[] #[]] 63))
  generalize (v4.alloc (.cells #[.int .i64 0, .nilFunc, .nilFunc, .func (.func 50) #[] #[]] 63)) = u4 at *
  have f0 := HF.out.cell 0; have f1 := HF.out.cell 1; have f2 := HF.out.cell 2; have f3 := HF.out.cell 3; simp at f0 f1 f2 f3
  have mi := HMB.out.cell 11; simp at mi
  clear a0 a1 a2 a3
  obtain ⟨A4, c4, rfl, _, _⟩ := own_form HOW.out
  have HRN := hide (reads_one u4 9 (.string x11) (u4.heap.size + 1) (Nat.lt_succ_self _))
  replace HMB := hide (HMB.out.alloc (.cells #[.string x11] 9))
  replace HROW := hide (HROW.out.alloc (.cells #[.string x11] 9))
  replace HO := hide (HO.out.alloc (.cells #[.string x11] 9))
  replace HOW := hide (World.ownsRow.alloc HOW.out (.cells #[.string x11] 9))
  replace HBV := hide (show B0 ≤ (u4.alloc (.cells #[.string x11] 9)).heap.size by have := HBV.out; simp; omega)
  go_wp2_with (first | (go_at_call 50; refine (place11 _ _).mono ?_; rintro e w4 ⟨rfl, rfl⟩) | (at_builtin; refine wpList_append_any _ rfl (.tmp 24) (.tmp 30) 50 rfl B0 9 is (.string ByteArray.empty) 1 16 Try.underlying50 his hs0 hs1 hs2 rfl (by decide) _ 2 _ rfl HOW.out _ _ 1 1 [.string x11] rfl HRN.out (by simp [Value.oneCell']) (by unfold maxLen; omega) (by omega) HBV.out ?_; intro vv v5 hown1 hg1 _; have hbel := below_row hg1 (fun jj hjj => own_block_ge HOW.out hjj) HBV.out; replace HOW := hide (show v5.ownsRow B0 9 1 vv 3 (strc [x4, x7, x11]) from hown1); replace HMB := hide (HMB.out.below hbel (by have := HD.out; omega)); replace HROW := hide (HROW.out.below hbel (by have := HD.out; omega)); replace HO := hide (only_below HO.out hbel (by have := HD.out; omega)); replace HBV := hide (Nat.le_trans HBV.out hbel.size); clear hown1 hg1 hbel))
  clear f0 f1 f2 f3 mi HF HRN
  rw [rounds_succ]
  have a0 := HROW.out.cell 20; have a1 := HROW.out.cell 21; have a2 := HROW.out.cell 22; have a3 := HROW.out.cell 23
  simp [row2C, numC, txtC] at a0 a1 a2 a3
  go_upto_region 8 with fail
  have HF := hide (Blk.new v5 63 #[.int .i64 0, .nilFunc, .nilFunc, .func (.func 51) #[] #[]])
  replace HBV := hide (show B0 ≤ (v5.alloc (.cells #[.int .i64 0, .nilFunc, .nilFunc, .func (.func 51) #[] #[]] 63)).heap.size by have := HBV.out; simp; omega)
  replace HMB := hide (HMB.out.alloc (.cells #[.int .i64 0, .nilFunc, .nilFunc, .func (.func 51) #[] #[]] 63))
  replace HROW := hide (HROW.out.alloc (.cells #[.int .i64 0, .nilFunc, .nilFunc, .func (.func 51) #[] #[]] 63))
  replace HO := hide (HO.out.alloc (.cells #[.int .i64 0, .nilFunc, .nilFunc, .func (.func 51) #[] #[]] 63))
  replace HOW := hide (World.ownsRow.alloc HOW.out (.cells #[.int .i64 0, .nilFunc, .nilFunc, .func (.func 51) #[] #[]] 63))
  generalize (v5.alloc (.cells #[.int .i64 0, .nilFunc, .nilFunc, .func (.func 51) #[] #[]] 63)) = u5 at *
  have f0 := HF.out.cell 0; have f1 := HF.out.cell 1; have f2 := HF.out.cell 2; have f3 := HF.out.cell 3; simp at f0 f1 f2 f3
  have mi := HMB.out.cell 12; simp at mi
  clear a0 a1 a2 a3
  obtain ⟨A5, c5, rfl, _, _⟩ := own_form HOW.out
  have HRN := hide (reads_one u5 9 (.string x12) (u5.heap.size + 1) (Nat.lt_succ_self _))
  replace HMB := hide (HMB.out.alloc (.cells #[.string x12] 9))
  replace HROW := hide (HROW.out.alloc (.cells #[.string x12] 9))
  replace HO := hide (HO.out.alloc (.cells #[.string x12] 9))
  replace HOW := hide (World.ownsRow.alloc HOW.out (.cells #[.string x12] 9))
  replace HBV := hide (show B0 ≤ (u5.alloc (.cells #[.string x12] 9)).heap.size by have := HBV.out; simp; omega)
  go_wp2_with (first | (go_at_call 51; refine (place12 _ _).mono ?_; rintro e w4 ⟨rfl, rfl⟩) | (at_builtin; refine wpList_append_any _ rfl (.tmp 24) (.tmp 30) 50 rfl B0 9 is (.string ByteArray.empty) 1 16 Try.underlying50 his hs0 hs1 hs2 rfl (by decide) _ 3 _ rfl HOW.out _ _ 1 1 [.string x12] rfl HRN.out (by simp [Value.oneCell']) (by unfold maxLen; omega) (by omega) HBV.out ?_; intro vv v6 hown1 hg1 _; have hbel := below_row hg1 (fun jj hjj => own_block_ge HOW.out hjj) HBV.out; replace HOW := hide (show v6.ownsRow B0 9 1 vv 4 (strc [x4, x7, x11, x12]) from hown1); replace HMB := hide (HMB.out.below hbel (by have := HD.out; omega)); replace HROW := hide (HROW.out.below hbel (by have := HD.out; omega)); replace HO := hide (only_below HO.out hbel (by have := HD.out; omega)); replace HBV := hide (Nat.le_trans HBV.out hbel.size); clear hown1 hg1 hbel))
  clear f0 f1 f2 f3 mi HF HRN
  rw [rounds_succ]
  obtain ⟨Az, cz, rfl, _, _⟩ := own_form HOW.out
  go_wp2_with fail
  go_ret
  exact terms_yes HV.out rfl HO.out HOW.out
end
section
open Go.RowKit Go.Deep

set_option maxRecDepth 100000 in
set_option maxHeartbeats 12800000 in
theorem Terms_3 (w : World) (s r c : Nat) (x4 x5 x6 x7 x8 x9 x10 x11 x12 : ByteArray) (hF : (Mg.mk 3 s r c x4 x5 x6 x7 x8 x9 x10 x11 x12).Fine) :
    Calls Try.prog 37 #[.agg #[.int .i64 3, .int .u32 (s : Nat), .int .u32 (r : Nat), .int .u64 (c : Nat), .string x4, .string x5, .string x6, .string x7, .string x8, .string x9, .string x10, .string x11, .string x12]] w (TermsPost (Mg.mk 3 s r c x4 x5 x6 x7 x8 x9 x10 x11 x12) w) := by
  have hst := fun (W : World) (a : Addr) (fn : Fn) (c : Array Value) => (run_store Try.prog W a (.func fn #[] c) .plain rfl : (store a (.func fn #[] c)).run Try.prog W = stored Try.prog W a (.func fn #[] c) .plain)
  have hsn := fun (W : World) (a : Addr) => (run_store Try.prog W a .nilFunc .plain rfl : (store a .nilFunc).run Try.prog W = stored Try.prog W a .nilFunc .plain)
  have HP := hide (fun W => proper_3 W s r c x4 x5 x6 x7 x8 x9 x10 x11 x12 hF)
  unfold PropPost at HP
  obtain ⟨hs, hr, hc, hx4, hx5, hx6, hx7, hx8, hx9, hx10, hx11, hx12⟩ := hF
  simp only at hs hr hc hx4 hx5 hx6 hx7 hx8 hx9 hx10 hx11 hx12
  have HMB := hide (Blk.new w 27 #[.int .i64 3, .int .u32 (s : Nat), .int .u32 (r : Nat), .int .u64 (c : Nat), .string x4, .string x5, .string x6, .string x7, .string x8, .string x9, .string x10, .string x11, .string x12])
  have HO := hide ((Only.refl [] w).alloc (.cells #[.int .i64 3, .int .u32 (s : Nat), .int .u32 (r : Nat), .int .u64 (c : Nat), .string x4, .string x5, .string x6, .string x7, .string x8, .string x9, .string x10, .string x11, .string x12] 27))
  have m0 := HMB.out.cell 0; have m1 := HMB.out.cell 1; have m2 := HMB.out.cell 2; have m3 := HMB.out.cell 3; have m4 := HMB.out.cell 4; have m5 := HMB.out.cell 5; have m6 := HMB.out.cell 6; have m7 := HMB.out.cell 7; have m8 := HMB.out.cell 8; have m9 := HMB.out.cell 9; have m10 := HMB.out.cell 10; have m11 := HMB.out.cell 11; have m12 := HMB.out.cell 12; simp at m0 m1 m2 m3 m4 m5 m6 m7 m8 m9 m10 m11 m12
  cases hB : rightM (Mg.mk 3 s r c x4 x5 x6 x7 x8 x9 x10 x11 x12)
  case false =>
    rw [hB] at HP
    have HV := hide hB
    clear hB
    go_enter Try.func37, Try.ntmps37
    go_wp2_with (go_at_call 33; refine (HP.out _).mono ?_; rintro e w1 ⟨fv, rfl, ho, _⟩; replace HO := hide (HO.out.trans ho); clear ho)
    go_ret
    exact terms_no HV.out HO.out
  rw [hB] at HP
  have HV := hide hB
  have hz8 : x8.size ≤ 65535 := fit_size (by have h := hB; simp [rightM, textsM] at h; simp [h])
  have hz9 : x9.size ≤ 65535 := fit_size (by have h := hB; simp [rightM, textsM] at h; simp [h])
  clear hB
  obtain ⟨is, his, hs0, hs1, hs2⟩ := info_parts (show (Try.prog.info? 9).map (fun i => (i.zero, i.size, i.bytes)) = some (some (.string ByteArray.empty), 1, 16) by kernel_rfl)
  go_enter Try.func37, Try.ntmps37
  go_upto_region 6 with (go_at_call 33; refine (HP.out _).mono ?_; rintro e w1 ⟨fv, rfl, ho, hz⟩; obtain ⟨g, b1, b2, rfl, hg, hb1, hb2, hrow, hx1, hx2⟩ := hz (by trivial); rw [World.size_alloc] at hg hb1 hb2; have HROW := hide hrow; replace HMB := hide (HMB.out.only ho (by simp)); replace HO := hide (HO.out.trans ho); clear hg hb1 hb2 hrow hx1 hx2 ho hz m0 m1 m2 m3 m4 m5 m6 m7 m8 m9 m10 m11 m12)
  have HD := hide (show w.heap.size < w1.heap.size ∧ g < w1.heap.size from ⟨HMB.out.lt, HROW.out.lt⟩)
  have HOW := hide (show w1.ownsRow w1.heap.size 9 1 (.slice none 0 0) 0 (strc []) from ⟨rfl, .inl ⟨rfl, rfl⟩⟩)
  have HBV := hide (Nat.le_refl w1.heap.size)
  obtain ⟨B0, hB0⟩ : ∃ B0, B0 = w1.heap.size := ⟨_, rfl⟩
  have HBV := hide (show B0 ≤ w1.heap.size by omega)
  rw [← hB0] at HD HOW
  clear hB0
  obtain ⟨v0, rfl⟩ : ∃ v0, v0 = w1 := ⟨w1, rfl⟩
  refine wp_loop_rounds 4 ?_
  rw [rounds_succ]
  have a0 := HROW.out.cell 0; have a1 := HROW.out.cell 1; have a2 := HROW.out.cell 2; have a3 := HROW.out.cell 3
  simp [row3C, numC, txtC] at a0 a1 a2 a3
  go_upto_region 8 with fail
  have HF := hide (Blk.new v0 63 #[.int .i64 4, .func (.func 70) #[] #[.pointer (some ⟨b2, 0, none⟩)], .func (.func 71) #[] #[.pointer (some ⟨b2, 0, none⟩)], .nilFunc])
  replace HBV := hide (show B0 ≤ (v0.alloc (.cells #[.int .i64 4, .func (.func 70) #[] #[.pointer (some ⟨b2, 0, none⟩)], .func (.func 71) #[] #[.pointer (some ⟨b2, 0, none⟩)], .nilFunc] 63)).heap.size by have := HBV.out; simp; omega)
  replace HMB := hide (HMB.out.alloc (.cells #[.int .i64 4, .func (.func 70) #[] #[.pointer (some ⟨b2, 0, none⟩)], .func (.func 71) #[] #[.pointer (some ⟨b2, 0, none⟩)], .nilFunc] 63))
  replace HROW := hide (HROW.out.alloc (.cells #[.int .i64 4, .func (.func 70) #[] #[.pointer (some ⟨b2, 0, none⟩)], .func (.func 71) #[] #[.pointer (some ⟨b2, 0, none⟩)], .nilFunc] 63))
  replace HO := hide (HO.out.alloc (.cells #[.int .i64 4, .func (.func 70) #[] #[.pointer (some ⟨b2, 0, none⟩)], .func (.func 71) #[] #[.pointer (some ⟨b2, 0, none⟩)], .nilFunc] 63))
  replace HOW := hide (World.ownsRow.alloc HOW.out (.cells #[.int .i64 4, .func (.func 70) #[] #[.pointer (some ⟨b2, 0, none⟩)], .func (.func 71) #[] #[.pointer (some ⟨b2, 0, none⟩)], .nilFunc] 63))
  generalize (v0.alloc (.cells #[.int .i64 4, .func (.func 70) #[] #[.pointer (some ⟨b2, 0, none⟩)], .func (.func 71) #[] #[.pointer (some ⟨b2, 0, none⟩)], .nilFunc] 63)) = u0 at *
  have f0 := HF.out.cell 0; have f1 := HF.out.cell 1; have f2 := HF.out.cell 2; have f3 := HF.out.cell 3; simp at f0 f1 f2 f3
  have mi := HMB.out.cell 2; simp at mi
  clear a0 a1 a2 a3
  go_wp2_with fail
  obtain ⟨v1, rfl⟩ : ∃ v, v = u0 := ⟨u0, rfl⟩
  clear f0 f1 f2 f3 mi HF
  rw [rounds_succ]
  have a0 := HROW.out.cell 4; have a1 := HROW.out.cell 5; have a2 := HROW.out.cell 6; have a3 := HROW.out.cell 7
  simp [row3C, numC, txtC] at a0 a1 a2 a3
  go_upto_region 8 with fail
  have HF := hide (Blk.new v1 63 #[.int .i64 0, .nilFunc, .nilFunc, .func (.func 55) #[] #[]])
  replace HBV := hide (show B0 ≤ (v1.alloc (.cells #[.int .i64 0, .nilFunc, .nilFunc, .func (.func 55) #[] #[]] 63)).heap.size by have := HBV.out; simp; omega)
  replace HMB := hide (HMB.out.alloc (.cells #[.int .i64 0, .nilFunc, .nilFunc, .func (.func 55) #[] #[]] 63))
  replace HROW := hide (HROW.out.alloc (.cells #[.int .i64 0, .nilFunc, .nilFunc, .func (.func 55) #[] #[]] 63))
  replace HO := hide (HO.out.alloc (.cells #[.int .i64 0, .nilFunc, .nilFunc, .func (.func 55) #[] #[]] 63))
  replace HOW := hide (World.ownsRow.alloc HOW.out (.cells #[.int .i64 0, .nilFunc, .nilFunc, .func (.func 55) #[] #[]] 63))
  generalize (v1.alloc (.cells #[.int .i64 0, .nilFunc, .nilFunc, .func (.func 55) #[] #[]] 63)) = u1 at *
  have f0 := HF.out.cell 0; have f1 := HF.out.cell 1; have f2 := HF.out.cell 2; have f3 := HF.out.cell 3; simp at f0 f1 f2 f3
  have mi := HMB.out.cell 8; simp at mi
  clear a0 a1 a2 a3
  have HRN := hide (reads_one u1 9 (.string x8) (u1.heap.size + 1) (Nat.lt_succ_self _))
  replace HMB := hide (HMB.out.alloc (.cells #[.string x8] 9))
  replace HROW := hide (HROW.out.alloc (.cells #[.string x8] 9))
  replace HO := hide (HO.out.alloc (.cells #[.string x8] 9))
  replace HOW := hide (World.ownsRow.alloc HOW.out (.cells #[.string x8] 9))
  replace HBV := hide (show B0 ≤ (u1.alloc (.cells #[.string x8] 9)).heap.size by have := HBV.out; simp; omega)
  go_wp2_with (first | (go_at_call 55; refine (place8 _ _).mono ?_; rintro e w4 ⟨rfl, rfl⟩) | (at_builtin; refine wpList_append_any _ rfl (.tmp 24) (.tmp 30) 50 rfl B0 9 is (.string ByteArray.empty) 1 16 Try.underlying50 his hs0 hs1 hs2 rfl (by decide) _ 0 _ rfl HOW.out _ _ 1 1 [.string x8] rfl HRN.out (by simp [Value.oneCell']) (by unfold maxLen; omega) (by omega) HBV.out ?_; intro vv v2 hown1 hg1 _; have hbel := below_row hg1 (fun jj hjj => own_block_ge HOW.out hjj) HBV.out; replace HOW := hide (show v2.ownsRow B0 9 1 vv 1 (strc [x8]) from hown1); replace HMB := hide (HMB.out.below hbel (by have := HD.out; omega)); replace HROW := hide (HROW.out.below hbel (by have := HD.out; omega)); replace HO := hide (only_below HO.out hbel (by have := HD.out; omega)); replace HBV := hide (Nat.le_trans HBV.out hbel.size); clear hown1 hg1 hbel))
  clear f0 f1 f2 f3 mi HF HRN
  rw [rounds_succ]
  have a0 := HROW.out.cell 8; have a1 := HROW.out.cell 9; have a2 := HROW.out.cell 10; have a3 := HROW.out.cell 11
  simp [row3C, numC, txtC] at a0 a1 a2 a3
  go_upto_region 8 with fail
  have HF := hide (Blk.new v2 63 #[.int .i64 0, .nilFunc, .nilFunc, .func (.func 56) #[] #[]])
  replace HBV := hide (show B0 ≤ (v2.alloc (.cells #[.int .i64 0, .nilFunc, .nilFunc, .func (.func 56) #[] #[]] 63)).heap.size by have := HBV.out; simp; omega)
  replace HMB := hide (HMB.out.alloc (.cells #[.int .i64 0, .nilFunc, .nilFunc, .func (.func 56) #[] #[]] 63))
  replace HROW := hide (HROW.out.alloc (.cells #[.int .i64 0, .nilFunc, .nilFunc, .func (.func 56) #[] #[]] 63))
  replace HO := hide (HO.out.alloc (.cells #[.int .i64 0, .nilFunc, .nilFunc, .func (.func 56) #[] #[]] 63))
  replace HOW := hide (World.ownsRow.alloc HOW.out (.cells #[.int .i64 0, .nilFunc, .nilFunc, .func (.func 56) #[] #[]] 63))
  generalize (v2.alloc (.cells #[.int .i64 0, .nilFunc, .nilFunc, .func (.func 56) #[] #[]] 63)) = u2 at *
  have f0 := HF.out.cell 0; have f1 := HF.out.cell 1; have f2 := HF.out.cell 2; have f3 := HF.out.cell 3; simp at f0 f1 f2 f3
  have mi := HMB.out.cell 9; simp at mi
  clear a0 a1 a2 a3
  obtain ⟨A2, c2, rfl, _, _⟩ := own_form HOW.out
  have HRN := hide (reads_one u2 9 (.string x9) (u2.heap.size + 1) (Nat.lt_succ_self _))
  replace HMB := hide (HMB.out.alloc (.cells #[.string x9] 9))
  replace HROW := hide (HROW.out.alloc (.cells #[.string x9] 9))
  replace HO := hide (HO.out.alloc (.cells #[.string x9] 9))
  replace HOW := hide (World.ownsRow.alloc HOW.out (.cells #[.string x9] 9))
  replace HBV := hide (show B0 ≤ (u2.alloc (.cells #[.string x9] 9)).heap.size by have := HBV.out; simp; omega)
  go_wp2_with (first | (go_at_call 56; refine (place9 _ _).mono ?_; rintro e w4 ⟨rfl, rfl⟩) | (at_builtin; refine wpList_append_any _ rfl (.tmp 24) (.tmp 30) 50 rfl B0 9 is (.string ByteArray.empty) 1 16 Try.underlying50 his hs0 hs1 hs2 rfl (by decide) _ 1 _ rfl HOW.out _ _ 1 1 [.string x9] rfl HRN.out (by simp [Value.oneCell']) (by unfold maxLen; omega) (by omega) HBV.out ?_; intro vv v3 hown1 hg1 _; have hbel := below_row hg1 (fun jj hjj => own_block_ge HOW.out hjj) HBV.out; replace HOW := hide (show v3.ownsRow B0 9 1 vv 2 (strc [x8, x9]) from hown1); replace HMB := hide (HMB.out.below hbel (by have := HD.out; omega)); replace HROW := hide (HROW.out.below hbel (by have := HD.out; omega)); replace HO := hide (only_below HO.out hbel (by have := HD.out; omega)); replace HBV := hide (Nat.le_trans HBV.out hbel.size); clear hown1 hg1 hbel))
  clear f0 f1 f2 f3 mi HF HRN
  rw [rounds_succ]
  obtain ⟨Az, cz, rfl, _, _⟩ := own_form HOW.out
  go_wp2_with fail
  go_ret
  exact terms_yes HV.out rfl HO.out HOW.out
end
section
open Go.RowKit Go.Deep

set_option maxRecDepth 100000 in
set_option maxHeartbeats 12800000 in
theorem Terms_4 (w : World) (s r c : Nat) (x4 x5 x6 x7 x8 x9 x10 x11 x12 : ByteArray) (hF : (Mg.mk 4 s r c x4 x5 x6 x7 x8 x9 x10 x11 x12).Fine) :
    Calls Try.prog 37 #[.agg #[.int .i64 4, .int .u32 (s : Nat), .int .u32 (r : Nat), .int .u64 (c : Nat), .string x4, .string x5, .string x6, .string x7, .string x8, .string x9, .string x10, .string x11, .string x12]] w (TermsPost (Mg.mk 4 s r c x4 x5 x6 x7 x8 x9 x10 x11 x12) w) := by
  have hst := fun (W : World) (a : Addr) (fn : Fn) (c : Array Value) => (run_store Try.prog W a (.func fn #[] c) .plain rfl : (store a (.func fn #[] c)).run Try.prog W = stored Try.prog W a (.func fn #[] c) .plain)
  have hsn := fun (W : World) (a : Addr) => (run_store Try.prog W a .nilFunc .plain rfl : (store a .nilFunc).run Try.prog W = stored Try.prog W a .nilFunc .plain)
  have HP := hide (fun W => proper_4 W s r c x4 x5 x6 x7 x8 x9 x10 x11 x12 hF)
  unfold PropPost at HP
  obtain ⟨hs, hr, hc, hx4, hx5, hx6, hx7, hx8, hx9, hx10, hx11, hx12⟩ := hF
  simp only at hs hr hc hx4 hx5 hx6 hx7 hx8 hx9 hx10 hx11 hx12
  have HMB := hide (Blk.new w 27 #[.int .i64 4, .int .u32 (s : Nat), .int .u32 (r : Nat), .int .u64 (c : Nat), .string x4, .string x5, .string x6, .string x7, .string x8, .string x9, .string x10, .string x11, .string x12])
  have HO := hide ((Only.refl [] w).alloc (.cells #[.int .i64 4, .int .u32 (s : Nat), .int .u32 (r : Nat), .int .u64 (c : Nat), .string x4, .string x5, .string x6, .string x7, .string x8, .string x9, .string x10, .string x11, .string x12] 27))
  have m0 := HMB.out.cell 0; have m1 := HMB.out.cell 1; have m2 := HMB.out.cell 2; have m3 := HMB.out.cell 3; have m4 := HMB.out.cell 4; have m5 := HMB.out.cell 5; have m6 := HMB.out.cell 6; have m7 := HMB.out.cell 7; have m8 := HMB.out.cell 8; have m9 := HMB.out.cell 9; have m10 := HMB.out.cell 10; have m11 := HMB.out.cell 11; have m12 := HMB.out.cell 12; simp at m0 m1 m2 m3 m4 m5 m6 m7 m8 m9 m10 m11 m12
  cases hB : rightM (Mg.mk 4 s r c x4 x5 x6 x7 x8 x9 x10 x11 x12)
  case false =>
    rw [hB] at HP
    have HV := hide hB
    clear hB
    go_enter Try.func37, Try.ntmps37
    go_wp2_with (go_at_call 33; refine (HP.out _).mono ?_; rintro e w1 ⟨fv, rfl, ho, _⟩; replace HO := hide (HO.out.trans ho); clear ho)
    go_ret
    exact terms_no HV.out HO.out
  rw [hB] at HP
  have HV := hide hB
  have hz10 : x10.size ≤ 65535 := fit_size (by have h := hB; simp [rightM, textsM] at h; simp [h])
  clear hB
  obtain ⟨is, his, hs0, hs1, hs2⟩ := info_parts (show (Try.prog.info? 9).map (fun i => (i.zero, i.size, i.bytes)) = some (some (.string ByteArray.empty), 1, 16) by kernel_rfl)
  go_enter Try.func37, Try.ntmps37
  go_upto_region 6 with (go_at_call 33; refine (HP.out _).mono ?_; rintro e w1 ⟨fv, rfl, ho, hz⟩; obtain ⟨g, b1, b2, rfl, hg, hb1, hb2, hrow, hx1, hx2⟩ := hz (by trivial); rw [World.size_alloc] at hg hb1 hb2; have HROW := hide hrow; replace HMB := hide (HMB.out.only ho (by simp)); replace HO := hide (HO.out.trans ho); clear hg hb1 hb2 hrow hx1 hx2 ho hz m0 m1 m2 m3 m4 m5 m6 m7 m8 m9 m10 m11 m12)
  have HD := hide (show w.heap.size < w1.heap.size ∧ g < w1.heap.size from ⟨HMB.out.lt, HROW.out.lt⟩)
  have HOW := hide (show w1.ownsRow w1.heap.size 9 1 (.slice none 0 0) 0 (strc []) from ⟨rfl, .inl ⟨rfl, rfl⟩⟩)
  have HBV := hide (Nat.le_refl w1.heap.size)
  obtain ⟨B0, hB0⟩ : ∃ B0, B0 = w1.heap.size := ⟨_, rfl⟩
  have HBV := hide (show B0 ≤ w1.heap.size by omega)
  rw [← hB0] at HD HOW
  clear hB0
  obtain ⟨v0, rfl⟩ : ∃ v0, v0 = w1 := ⟨w1, rfl⟩
  refine wp_loop_rounds 4 ?_
  rw [rounds_succ]
  have a0 := HROW.out.cell 0; have a1 := HROW.out.cell 1; have a2 := HROW.out.cell 2; have a3 := HROW.out.cell 3
  simp [row4C, numC, txtC, cntC] at a0 a1 a2 a3
  go_upto_region 8 with fail
  have HF := hide (Blk.new v0 63 #[.int .i64 4, .func (.func 70) #[] #[.pointer (some ⟨b2, 0, none⟩)], .func (.func 71) #[] #[.pointer (some ⟨b2, 0, none⟩)], .nilFunc])
  replace HBV := hide (show B0 ≤ (v0.alloc (.cells #[.int .i64 4, .func (.func 70) #[] #[.pointer (some ⟨b2, 0, none⟩)], .func (.func 71) #[] #[.pointer (some ⟨b2, 0, none⟩)], .nilFunc] 63)).heap.size by have := HBV.out; simp; omega)
  replace HMB := hide (HMB.out.alloc (.cells #[.int .i64 4, .func (.func 70) #[] #[.pointer (some ⟨b2, 0, none⟩)], .func (.func 71) #[] #[.pointer (some ⟨b2, 0, none⟩)], .nilFunc] 63))
  replace HROW := hide (HROW.out.alloc (.cells #[.int .i64 4, .func (.func 70) #[] #[.pointer (some ⟨b2, 0, none⟩)], .func (.func 71) #[] #[.pointer (some ⟨b2, 0, none⟩)], .nilFunc] 63))
  replace HO := hide (HO.out.alloc (.cells #[.int .i64 4, .func (.func 70) #[] #[.pointer (some ⟨b2, 0, none⟩)], .func (.func 71) #[] #[.pointer (some ⟨b2, 0, none⟩)], .nilFunc] 63))
  replace HOW := hide (World.ownsRow.alloc HOW.out (.cells #[.int .i64 4, .func (.func 70) #[] #[.pointer (some ⟨b2, 0, none⟩)], .func (.func 71) #[] #[.pointer (some ⟨b2, 0, none⟩)], .nilFunc] 63))
  generalize (v0.alloc (.cells #[.int .i64 4, .func (.func 70) #[] #[.pointer (some ⟨b2, 0, none⟩)], .func (.func 71) #[] #[.pointer (some ⟨b2, 0, none⟩)], .nilFunc] 63)) = u0 at *
  have f0 := HF.out.cell 0; have f1 := HF.out.cell 1; have f2 := HF.out.cell 2; have f3 := HF.out.cell 3; simp at f0 f1 f2 f3
  have mi := HMB.out.cell 2; simp at mi
  clear a0 a1 a2 a3
  go_wp2_with fail
  obtain ⟨v1, rfl⟩ : ∃ v, v = u0 := ⟨u0, rfl⟩
  clear f0 f1 f2 f3 mi HF
  rw [rounds_succ]
  have a0 := HROW.out.cell 4; have a1 := HROW.out.cell 5; have a2 := HROW.out.cell 6; have a3 := HROW.out.cell 7
  simp [row4C, numC, txtC, cntC] at a0 a1 a2 a3
  go_upto_region 8 with fail
  have HF := hide (Blk.new v1 63 #[.int .i64 8, .func (.func 57) #[] #[], .func (.func 58) #[] #[], .nilFunc])
  replace HBV := hide (show B0 ≤ (v1.alloc (.cells #[.int .i64 8, .func (.func 57) #[] #[], .func (.func 58) #[] #[], .nilFunc] 63)).heap.size by have := HBV.out; simp; omega)
  replace HMB := hide (HMB.out.alloc (.cells #[.int .i64 8, .func (.func 57) #[] #[], .func (.func 58) #[] #[], .nilFunc] 63))
  replace HROW := hide (HROW.out.alloc (.cells #[.int .i64 8, .func (.func 57) #[] #[], .func (.func 58) #[] #[], .nilFunc] 63))
  replace HO := hide (HO.out.alloc (.cells #[.int .i64 8, .func (.func 57) #[] #[], .func (.func 58) #[] #[], .nilFunc] 63))
  replace HOW := hide (World.ownsRow.alloc HOW.out (.cells #[.int .i64 8, .func (.func 57) #[] #[], .func (.func 58) #[] #[], .nilFunc] 63))
  generalize (v1.alloc (.cells #[.int .i64 8, .func (.func 57) #[] #[], .func (.func 58) #[] #[], .nilFunc] 63)) = u1 at *
  have f0 := HF.out.cell 0; have f1 := HF.out.cell 1; have f2 := HF.out.cell 2; have f3 := HF.out.cell 3; simp at f0 f1 f2 f3
  have mi := HMB.out.cell 3; simp at mi
  clear a0 a1 a2 a3
  go_wp2_with fail
  obtain ⟨v2, rfl⟩ : ∃ v, v = u1 := ⟨u1, rfl⟩
  clear f0 f1 f2 f3 mi HF
  rw [rounds_succ]
  have a0 := HROW.out.cell 8; have a1 := HROW.out.cell 9; have a2 := HROW.out.cell 10; have a3 := HROW.out.cell 11
  simp [row4C, numC, txtC, cntC] at a0 a1 a2 a3
  go_upto_region 8 with fail
  have HF := hide (Blk.new v2 63 #[.int .i64 0, .nilFunc, .nilFunc, .func (.func 59) #[] #[]])
  replace HBV := hide (show B0 ≤ (v2.alloc (.cells #[.int .i64 0, .nilFunc, .nilFunc, .func (.func 59) #[] #[]] 63)).heap.size by have := HBV.out; simp; omega)
  replace HMB := hide (HMB.out.alloc (.cells #[.int .i64 0, .nilFunc, .nilFunc, .func (.func 59) #[] #[]] 63))
  replace HROW := hide (HROW.out.alloc (.cells #[.int .i64 0, .nilFunc, .nilFunc, .func (.func 59) #[] #[]] 63))
  replace HO := hide (HO.out.alloc (.cells #[.int .i64 0, .nilFunc, .nilFunc, .func (.func 59) #[] #[]] 63))
  replace HOW := hide (World.ownsRow.alloc HOW.out (.cells #[.int .i64 0, .nilFunc, .nilFunc, .func (.func 59) #[] #[]] 63))
  generalize (v2.alloc (.cells #[.int .i64 0, .nilFunc, .nilFunc, .func (.func 59) #[] #[]] 63)) = u2 at *
  have f0 := HF.out.cell 0; have f1 := HF.out.cell 1; have f2 := HF.out.cell 2; have f3 := HF.out.cell 3; simp at f0 f1 f2 f3
  have mi := HMB.out.cell 10; simp at mi
  clear a0 a1 a2 a3
  have HRN := hide (reads_one u2 9 (.string x10) (u2.heap.size + 1) (Nat.lt_succ_self _))
  replace HMB := hide (HMB.out.alloc (.cells #[.string x10] 9))
  replace HROW := hide (HROW.out.alloc (.cells #[.string x10] 9))
  replace HO := hide (HO.out.alloc (.cells #[.string x10] 9))
  replace HOW := hide (World.ownsRow.alloc HOW.out (.cells #[.string x10] 9))
  replace HBV := hide (show B0 ≤ (u2.alloc (.cells #[.string x10] 9)).heap.size by have := HBV.out; simp; omega)
  go_wp2_with (first | (go_at_call 59; refine (place10 _ _).mono ?_; rintro e w4 ⟨rfl, rfl⟩) | (at_builtin; refine wpList_append_any _ rfl (.tmp 24) (.tmp 30) 50 rfl B0 9 is (.string ByteArray.empty) 1 16 Try.underlying50 his hs0 hs1 hs2 rfl (by decide) _ 0 _ rfl HOW.out _ _ 1 1 [.string x10] rfl HRN.out (by simp [Value.oneCell']) (by unfold maxLen; omega) (by omega) HBV.out ?_; intro vv v3 hown1 hg1 _; have hbel := below_row hg1 (fun jj hjj => own_block_ge HOW.out hjj) HBV.out; replace HOW := hide (show v3.ownsRow B0 9 1 vv 1 (strc [x10]) from hown1); replace HMB := hide (HMB.out.below hbel (by have := HD.out; omega)); replace HROW := hide (HROW.out.below hbel (by have := HD.out; omega)); replace HO := hide (only_below HO.out hbel (by have := HD.out; omega)); replace HBV := hide (Nat.le_trans HBV.out hbel.size); clear hown1 hg1 hbel))
  clear f0 f1 f2 f3 mi HF HRN
  rw [rounds_succ]
  obtain ⟨Az, cz, rfl, _, _⟩ := own_form HOW.out
  go_wp2_with fail
  go_ret
  exact terms_yes HV.out rfl HO.out HOW.out
end
section
open Go.RowKit Go.Deep

theorem right_none {m : Mg} (h : ¬ (1 ≤ m.k ∧ m.k ≤ 4)) : rightM m = false := by unfold rightM; rw [decide_eq_false h]; rfl
set_option maxRecDepth 100000 in
set_option maxHeartbeats 3200000 in
theorem proper_none (w : World) (m : Mg) (h : ¬ (1 ≤ m.k ∧ m.k ≤ 4)) : Calls Try.prog 33 #[.agg m.cells] w fun e w' => e = .returned (.tuple #[.slice none 0 0, .bool false]) ∧ Only [] w w' := by
  have HMB := hide (Blk.new w 27 m.cells)
  have HO := hide ((Only.refl [] w).alloc (.cells m.cells 27))
  have a1 : (m.k == 1) = false := by rw [beq_eq_false_iff_ne]; omega
  have a2 : (m.k == 2) = false := by rw [beq_eq_false_iff_ne]; omega
  have a3 : (m.k == 3) = false := by rw [beq_eq_false_iff_ne]; omega
  have a4 : (m.k == 4) = false := by rw [beq_eq_false_iff_ne]; omega
  have HRW := hide (fun W => row_none m.k a1 a2 a3 a4 W)
  obtain ⟨k, s, r, c, x4, x5, x6, x7, x8, x9, x10, x11, x12⟩ := m
  unfold Mg.cells at HMB HO ⊢
  simp only at HMB HO HRW ⊢
  have m0 := HMB.out.cell 0
  simp at m0
  clear h a1 a2 a3 a4
  go_enter Try.func33, Try.ntmps33
  go_wp2_with (go_at_call 28; refine (HRW.out _).mono ?_; rintro e w1 ⟨rfl, ho⟩; replace HO := hide (HO.out.trans ho); clear ho)
  go_ret2
  exact ⟨rfl, HO.out⟩
set_option maxRecDepth 100000 in
set_option maxHeartbeats 3200000 in
theorem Terms_none (w : World) (m : Mg) (h : ¬ (1 ≤ m.k ∧ m.k ≤ 4)) : Calls Try.prog 37 #[.agg m.cells] w (TermsPost m w) := by
  have HMB := hide (Blk.new w 27 m.cells)
  have HO := hide ((Only.refl [] w).alloc (.cells m.cells 27))
  have HP := hide (fun W => proper_none W m h)
  have HV := hide (right_none h)
  obtain ⟨k, s, r, c, x4, x5, x6, x7, x8, x9, x10, x11, x12⟩ := m
  unfold Mg.cells at HMB HO HP ⊢
  simp only at HMB HO HP ⊢
  have m0 := HMB.out.cell 0; have m1 := HMB.out.cell 1; have m2 := HMB.out.cell 2; have m3 := HMB.out.cell 3; have m4 := HMB.out.cell 4; have m5 := HMB.out.cell 5; have m6 := HMB.out.cell 6; have m7 := HMB.out.cell 7; have m8 := HMB.out.cell 8; have m9 := HMB.out.cell 9; have m10 := HMB.out.cell 10; have m11 := HMB.out.cell 11; have m12 := HMB.out.cell 12; simp at m0 m1 m2 m3 m4 m5 m6 m7 m8 m9 m10 m11 m12
  clear h
  go_enter Try.func37, Try.ntmps37
  go_wp2_with (go_at_call 33; refine (HP.out _).mono ?_; rintro e w1 ⟨rfl, ho⟩; replace HO := hide (HO.out.trans ho); clear ho)
  go_ret
  exact terms_no HV.out HO.out
theorem kinds (k : Int) : k = 1 ∨ k = 2 ∨ k = 3 ∨ k = 4 ∨ ¬ (1 ≤ k ∧ k ≤ 4) := by omega
theorem Terms_any (w : World) (m : Mg) (hF : m.Fine) : Calls Try.prog 37 #[.agg m.cells] w (TermsPost m w) := by
  obtain ⟨k, s, r, c, x4, x5, x6, x7, x8, x9, x10, x11, x12⟩ := m
  rcases kinds k with rfl | rfl | rfl | rfl | h
  · exact Terms_1 w s r c x4 x5 x6 x7 x8 x9 x10 x11 x12 hF
  · exact Terms_2 w s r c x4 x5 x6 x7 x8 x9 x10 x11 x12 hF
  · exact Terms_3 w s r c x4 x5 x6 x7 x8 x9 x10 x11 x12 hF
  · exact Terms_4 w s r c x4 x5 x6 x7 x8 x9 x10 x11 x12 hF
  · exact Terms_none w _ h
end
section
open Go.RowKit Go.Deep

theorem fine_of {m : Mg} (hs : m.s < 4294967296) (hr : m.r < 4294967296) (hc : m.c < 18446744073709551616) (h4 : m.x4.size ≤ 65535) (h5 : m.x5.size ≤ 65535) (h6 : m.x6.size ≤ 65535) (h7 : m.x7.size ≤ 65535) (h8 : m.x8.size ≤ 65535) (h9 : m.x9.size ≤ 65535) (h10 : m.x10.size ≤ 65535) (h11 : m.x11.size ≤ 65535) (h12 : m.x12.size ≤ 65535) : m.Fine := by
  have h : 65535 ≤ maxLen := by unfold maxLen; omega
  exact ⟨hs, hr, hc, Nat.le_trans h4 h, Nat.le_trans h5 h, Nat.le_trans h6 h, Nat.le_trans h7 h, Nat.le_trans h8 h, Nat.le_trans h9 h, Nat.le_trans h10 h, Nat.le_trans h11 h, Nat.le_trans h12 h⟩
end
section
open Go.RowKit Go.Deep

/-- Air in block g: nothing sent, a listener who has nothing. -/
def AirIs (g k m sb : Nat) (w : World) : Prop := Blk w g 77 #[.slice none 0 0, .pointer (some ⟨k, 0, none⟩)] ∧ KnowIs k m 0 sb (.map []) (.slice none 0 0) w
theorem AirIs.only {S : List Nat} {g k m sb : Nat} {w w' : World} (h : AirIs g k m sb w) (ho : Only S w w') (hg : g ∉ S) (hk : k ∉ S) (hm : m ∉ S) : AirIs g k m sb w' := ⟨h.1.only ho hg, h.2.only ho hk hm⟩
def NewAPost (w : World) (e : Ending) (w' : World) : Prop := ∃ g k m sb, e = .returned (.pointer (some ⟨g, 0, none⟩)) ∧ AirIs g k m sb w' ∧ Only [] w w'
set_option maxRecDepth 100000 in
set_option maxHeartbeats 6400000 in
theorem newA_any (w : World) : Calls Try.prog 35 #[] w (NewAPost w) := by
  have HN := hide (newK_any w)
  unfold NewKPost at HN
  go_enter Try.func35, Try.ntmps35
  go_wp2_with (go_at_call 26; refine HN.out.mono ?_; rintro e w1 ⟨rfl, hk, _, ho⟩; have HO := hide ho; have HK := hide hk; clear ho hk)
  go_ret
  exact ⟨_, _, _, _, rfl, ⟨Blk.new _ _ _, HK.out.only ((Only.refl [] _).alloc _) (by simp) (by simp)⟩, HO.out.alloc _⟩
theorem readV_99 : readV [9, 9] = (3, #[.int .i64 0, .int .u32 0, .int .u32 0, .int .u64 0, .string ⟨#[]⟩, .string ⟨#[]⟩, .string ⟨#[]⟩, .string ⟨#[]⟩, .string ⟨#[]⟩, .string ⟨#[]⟩, .string ⟨#[]⟩, .string ⟨#[]⟩, .string ⟨#[]⟩]) := by kernel_rfl
theorem readV_a1 : readV [4, 0, 0, 0, 7, 0, 0, 0, 1, 0, 0, 0, 0, 0, 0, 0, 2, 0, 97, 49] = (0, #[.int .i64 4, .int .u32 0, .int .u32 7, .int .u64 1, .string ⟨#[]⟩, .string ⟨#[]⟩, .string ⟨#[]⟩, .string ⟨#[]⟩, .string ⟨#[]⟩, .string ⟨#[]⟩, .string ⟨#[97, 49]⟩, .string ⟨#[]⟩, .string ⟨#[]⟩]) := by kernel_rfl
def msgT : Mg := ⟨4, 0, 7, 1, noT, noT, noT, noT, noT, noT, ⟨#[97, 49]⟩, noT, noT⟩
theorem msgT_cells : msgT.cells = #[.int .i64 4, .int .u32 0, .int .u32 7, .int .u64 1, .string ⟨#[]⟩, .string ⟨#[]⟩, .string ⟨#[]⟩, .string ⟨#[]⟩, .string ⟨#[]⟩, .string ⟨#[]⟩, .string ⟨#[97, 49]⟩, .string ⟨#[]⟩, .string ⟨#[]⟩] := rfl
theorem msgT_right : rightM msgT = true := by kernel_rfl
theorem msgT_texts : textsM msgT = [⟨#[97, 49]⟩] := rfl
theorem msgT_fine : msgT.Fine := fine_of (by decide) (by decide) (by decide) (by decide) (by decide) (by decide) (by decide) (by decide) (by decide) (by decide) (by decide) (by decide)
theorem canA_99 (w : World) (g k m sb : Nat) (bv : Value) (hb : Rd w [] bv (ints .u8 (byts [9, 9]))) (_ha : AirIs g k m sb w) :
    Calls Try.prog 17 #[.pointer (some ⟨g, 0, none⟩), bv] w (RetB true w) := by
  have HR := hide (Read_any w bv _ (by decide) hb)
  unfold ReadPostW at HR
  rw [readV_99] at HR
  obtain ⟨A, cap, rfl, _, _⟩ := hb.formb
  clear hb _ha
  go_enter Try.func17, Try.ntmps17
  go_wp2_with (go_at_call 7; refine HR.out.mono ?_; rintro e w1 ⟨rfl, ho⟩; have HO := hide ho; clear ho)
  go_ret
  exact retb rfl (HO.out.alloc _)
set_option maxRecDepth 100000 in
set_option maxHeartbeats 6400000 in
theorem canA_a1 (w : World) (g k m sb : Nat) (bv : Value) (hb : Rd w [] bv (ints .u8 (byts [4, 0, 0, 0, 7, 0, 0, 0, 1, 0, 0, 0, 0, 0, 0, 0, 2, 0, 97, 49]))) (ha : AirIs g k m sb w) :
    Calls Try.prog 17 #[.pointer (some ⟨g, 0, none⟩), bv] w (RetB false w) := by
  have HR := hide (Read_any w bv _ (by decide) hb)
  unfold ReadPostW at HR
  rw [readV_a1] at HR
  have HTM := hide (fun W => Terms_any W msgT msgT_fine)
  unfold TermsPost at HTM
  rw [msgT_right, msgT_cells, msgT_texts] at HTM
  simp only [if_true] at HTM
  have HKC := hide (fun W (h : KnowIs k m 0 sb (.map []) (.slice none 0 0) W) => CanK_atom W k m 0 sb (.map []) (.slice none 0 0) ⟨#[97, 49]⟩ h (by decide) (by unfold maxLen; show 2 ≤ _; omega) (by decide) (by rw [kind_a1]; decide))
  rw [show hadB (.map []) (ByteArray.extract ⟨#[97, 49]⟩ 0 (send ⟨#[97, 49]⟩ 1)) = false by kernel_rfl] at HKC
  unfold RetB at HKC
  have HA := hide ha
  obtain ⟨A, cap, rfl, _, _⟩ := hb.formb
  clear hb ha
  go_enter Try.func17, Try.ntmps17
  go_upto_region 6 with (go_at_call 7; refine HR.out.mono ?_; rintro e w1 ⟨rfl, ho⟩; have HMB := hide (Blk.new w1 27 #[.int .i64 4, .int .u32 0, .int .u32 7, .int .u64 1, .string ⟨#[]⟩, .string ⟨#[]⟩, .string ⟨#[]⟩, .string ⟨#[]⟩, .string ⟨#[]⟩, .string ⟨#[]⟩, .string ⟨#[97, 49]⟩, .string ⟨#[]⟩, .string ⟨#[]⟩]); have HO := hide (ho.alloc (.cells #[.int .i64 4, .int .u32 0, .int .u32 7, .int .u64 1, .string ⟨#[]⟩, .string ⟨#[]⟩, .string ⟨#[]⟩, .string ⟨#[]⟩, .string ⟨#[]⟩, .string ⟨#[]⟩, .string ⟨#[97, 49]⟩, .string ⟨#[]⟩, .string ⟨#[]⟩] 27)); replace HA := hide (HA.out.only HO.out (by simp) (by simp) (by simp)); clear ho)
  generalize (w1.alloc (.cells #[.int .i64 4, .int .u32 0, .int .u32 7, .int .u64 1, .string ⟨#[]⟩, .string ⟨#[]⟩, .string ⟨#[]⟩, .string ⟨#[]⟩, .string ⟨#[]⟩, .string ⟨#[]⟩, .string ⟨#[97, 49]⟩, .string ⟨#[]⟩, .string ⟨#[]⟩] 27)) = w2 at *
  have m0 := HMB.out.cell 0; have m1 := HMB.out.cell 1; have m2 := HMB.out.cell 2; have m3 := HMB.out.cell 3; have m4 := HMB.out.cell 4; have m5 := HMB.out.cell 5; have m6 := HMB.out.cell 6; have m7 := HMB.out.cell 7; have m8 := HMB.out.cell 8; have m9 := HMB.out.cell 9; have m10 := HMB.out.cell 10; have m11 := HMB.out.cell 11; have m12 := HMB.out.cell 12; simp at m0 m1 m2 m3 m4 m5 m6 m7 m8 m9 m10 m11 m12
  go_wp2_with (go_at_call 37; refine (HTM.out _).mono ?_; rintro e w3 ⟨ho, v, rfl, hrd⟩; obtain ⟨B, cp, hv, hcc, hmm⟩ := hrd.form; replace hv : v = .slice B 1 cp := hv; subst hv; obtain ⟨gg, oo, rfl, _, _, hcell⟩ := hrd.at_.2.2.2 0 (.string ⟨#[97, 49]⟩) rfl; replace HO := hide (HO.out.trans ho); replace HA := hide (HA.out.only ho (by simp) (by simp) (by simp)); clear ho hrd hcc hmm)
  rw [Nat.add_zero] at hcell
  have a1 := HA.out.1.cell 1
  simp at a1
  refine wp_loop_rounds 1 ?_
  rw [rounds_succ]
  go_wp2_with (go_at_call 22; refine (HKC.out _ HA.out.2).mono ?_; rintro e w4 ⟨rfl, ho⟩; replace HO := hide (HO.out.trans ho); clear ho)
  go_ret
  exact retb rfl HO.out
end
end Go.Proofs.Ytfmfnfmhknlpbaa

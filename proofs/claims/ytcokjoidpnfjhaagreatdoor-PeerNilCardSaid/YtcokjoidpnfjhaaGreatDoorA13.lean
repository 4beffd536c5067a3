/-
  Walks and plain words (texts Wt3, Wt4, Wm, Nr1, Nr3, Ge). No condition beyond those that each theorem states.
-/
import Derived.StillTailTactics
import Derived.Lib.ItoaMem
import Derived.Test.YtcokjoidpnfjhaaGreatDoorA11
import Derived.Test.YtcokjoidpnfjhaaGreatDoorA12
namespace Go.Proofs.YtcokjoidpnfjhaaGreatDoor
section
open Go.RowKit Go.Deep

set_option maxRecDepth 100000 in
set_option maxHeartbeats 12800000 in
theorem Terms_3 (w : World) (s r c : Nat) (x4 x5 x6 x7 x8 x9 x10 x11 x12 : ByteArray) (hF : (Mg.mk 3 s r c x4 x5 x6 x7 x8 x9 x10 x11 x12).Fine) :
    Calls Tryz.prog 109 #[.agg #[.int .i64 3, .int .u32 (s : Nat), .int .u32 (r : Nat), .int .u64 (c : Nat), .string x4, .string x5, .string x6, .string x7, .string x8, .string x9, .string x10, .string x11, .string x12]] w (TermsPost (Mg.mk 3 s r c x4 x5 x6 x7 x8 x9 x10 x11 x12) w) := by
  have hst := fun (W : World) (a : Addr) (fn : Fn) (c : Array Value) => (run_store Tryz.prog W a (.func fn #[] c) .plain rfl : (store a (.func fn #[] c)).run Tryz.prog W = stored Tryz.prog W a (.func fn #[] c) .plain)
  have hsn := fun (W : World) (a : Addr) => (run_store Tryz.prog W a .nilFunc .plain rfl : (store a .nilFunc).run Tryz.prog W = stored Tryz.prog W a .nilFunc .plain)
  have HP := hide (fun W => proper_3 W s r c x4 x5 x6 x7 x8 x9 x10 x11 x12 hF)
  unfold PropPost at HP
  obtain ⟨hs, hr, hc, hx4, hx5, hx6, hx7, hx8, hx9, hx10, hx11, hx12⟩ := hF
  simp only at hs hr hc hx4 hx5 hx6 hx7 hx8 hx9 hx10 hx11 hx12
  have HMB := hide (Blk.new w 29 #[.int .i64 3, .int .u32 (s : Nat), .int .u32 (r : Nat), .int .u64 (c : Nat), .string x4, .string x5, .string x6, .string x7, .string x8, .string x9, .string x10, .string x11, .string x12])
  have HO := hide ((Only.refl [] w).alloc (.cells #[.int .i64 3, .int .u32 (s : Nat), .int .u32 (r : Nat), .int .u64 (c : Nat), .string x4, .string x5, .string x6, .string x7, .string x8, .string x9, .string x10, .string x11, .string x12] 29))
  have m0 := HMB.out.cell 0; have m1 := HMB.out.cell 1; have m2 := HMB.out.cell 2; have m3 := HMB.out.cell 3; have m4 := HMB.out.cell 4; have m5 := HMB.out.cell 5; have m6 := HMB.out.cell 6; have m7 := HMB.out.cell 7; have m8 := HMB.out.cell 8; have m9 := HMB.out.cell 9; have m10 := HMB.out.cell 10; have m11 := HMB.out.cell 11; have m12 := HMB.out.cell 12; simp at m0 m1 m2 m3 m4 m5 m6 m7 m8 m9 m10 m11 m12
  cases hB : rightM (Mg.mk 3 s r c x4 x5 x6 x7 x8 x9 x10 x11 x12)
  case false =>
    rw [hB] at HP
    have HV := hide hB
    clear hB
    go_enter Tryz.func109, Tryz.ntmps109
    go_wp2_with (go_at_call 138; refine (HP.out _).mono ?_; rintro e w1 ⟨fv, rfl, ho, _⟩; replace HO := hide (HO.out.trans ho); clear ho)
    go_ret
    exact terms_no HV.out HO.out
  rw [hB] at HP
  have HV := hide hB
  have hz8 : x8.size ≤ 65535 := fit_size (by have h := hB; simp [rightM, textsM] at h; simp [h])
  have hz9 : x9.size ≤ 65535 := fit_size (by have h := hB; simp [rightM, textsM] at h; simp [h])
  clear hB
  obtain ⟨is, his, hs0, hs1, hs2⟩ := info_parts (show (Tryz.prog.info? 9).map (fun i => (i.zero, i.size, i.bytes)) = some (some (.string ByteArray.empty), 1, 16) by kernel_rfl)
  go_enter Tryz.func109, Tryz.ntmps109
  go_upto_region 6 with (go_at_call 138; refine (HP.out _).mono ?_; rintro e w1 ⟨fv, rfl, ho, hz⟩; obtain ⟨g, b1, b2, rfl, hg, hb1, hb2, hrow, hx1, hx2⟩ := hz (by trivial); rw [World.size_alloc] at hg hb1 hb2; have HROW := hide hrow; replace HMB := hide (HMB.out.only ho (by simp)); replace HO := hide (HO.out.trans ho); clear hg hb1 hb2 hrow hx1 hx2 ho hz m0 m1 m2 m3 m4 m5 m6 m7 m8 m9 m10 m11 m12)
  have HD := hide (show w.heap.size < w1.heap.size ∧ g < w1.heap.size from ⟨HMB.out.lt, HROW.out.lt⟩)
  have HOW := hide (show w1.ownsRow w1.heap.size 9 1 (.slice none 0 0) 0 (strc []) from ⟨rfl, .inl ⟨rfl, rfl⟩⟩)
  have HBV := hide (Nat.le_refl w1.heap.size)
  obtain ⟨B0, hB0⟩ : ∃ B0, B0 = w1.heap.size := ⟨_, rfl⟩
  have HBV := hide (show B0 ≤ w1.heap.size by omega)
  rw [← hB0] at HD HOW
  clear hB0
  obtain ⟨v0, rfl⟩ : ∃ v0, v0 = w1 := ⟨w1, rfl⟩
  refine wp_loop_rounds 4 ?_
  rw [rounds_succ]
  have a0 := HROW.out.cell 0; have a1 := HROW.out.cell 1; have a2 := HROW.out.cell 2; have a3 := HROW.out.cell 3
  simp [row3C, numC, txtC] at a0 a1 a2 a3
  go_upto_region 8 with fail
  have HF := hide (Blk.new v0 230 #[.int .i64 4, .func (.func 238) #[] #[.pointer (some ⟨b2, 0, none⟩)], .func (.func 239) #[] #[.pointer (some ⟨b2, 0, none⟩)], .nilFunc])
  replace HBV := hide (show B0 ≤ (v0.alloc (.cells #[.int .i64 4, .func (.func 238) #[] #[.pointer (some ⟨b2, 0, none⟩)], .func (.func 239) #[] #[.pointer (some ⟨b2, 0, none⟩)], .nilFunc] 230)).heap.size by have := HBV.out; simp; omega)
  replace HMB := hide (HMB.out.alloc (.cells #[.int .i64 4, .func (.func 238) #[] #[.pointer (some ⟨b2, 0, none⟩)], .func (.func 239) #[] #[.pointer (some ⟨b2, 0, none⟩)], .nilFunc] 230))
  replace HROW := hide (HROW.out.alloc (.cells #[.int .i64 4, .func (.func 238) #[] #[.pointer (some ⟨b2, 0, none⟩)], .func (.func 239) #[] #[.pointer (some ⟨b2, 0, none⟩)], .nilFunc] 230))
  replace HO := hide (HO.out.alloc (.cells #[.int .i64 4, .func (.func 238) #[] #[.pointer (some ⟨b2, 0, none⟩)], .func (.func 239) #[] #[.pointer (some ⟨b2, 0, none⟩)], .nilFunc] 230))
  replace HOW := hide (World.ownsRow.alloc HOW.out (.cells #[.int .i64 4, .func (.func 238) #[] #[.pointer (some ⟨b2, 0, none⟩)], .func (.func 239) #[] #[.pointer (some ⟨b2, 0, none⟩)], .nilFunc] 230))
  generalize (v0.alloc (.cells #[.int .i64 4, .func (.func 238) #[] #[.pointer (some ⟨b2, 0, none⟩)], .func (.func 239) #[] #[.pointer (some ⟨b2, 0, none⟩)], .nilFunc] 230)) = u0 at *
  have f0 := HF.out.cell 0; have f1 := HF.out.cell 1; have f2 := HF.out.cell 2; have f3 := HF.out.cell 3; simp at f0 f1 f2 f3
  have mi := HMB.out.cell 2; simp at mi
  clear a0 a1 a2 a3
  go_wp2_with fail
  obtain ⟨v1, rfl⟩ : ∃ v, v = u0 := ⟨u0, rfl⟩
  clear f0 f1 f2 f3 mi HF
  rw [rounds_succ]
  have a0 := HROW.out.cell 4; have a1 := HROW.out.cell 5; have a2 := HROW.out.cell 6; have a3 := HROW.out.cell 7
  simp [row3C, numC, txtC] at a0 a1 a2 a3
  go_upto_region 8 with fail
  have HF := hide (Blk.new v1 230 #[.int .i64 0, .nilFunc, .nilFunc, .func (.func 215) #[] #[]])
  replace HBV := hide (show B0 ≤ (v1.alloc (.cells #[.int .i64 0, .nilFunc, .nilFunc, .func (.func 215) #[] #[]] 230)).heap.size by have := HBV.out; simp; omega)
  replace HMB := hide (HMB.out.alloc (.cells #[.int .i64 0, .nilFunc, .nilFunc, .func (.func 215) #[] #[]] 230))
  replace HROW := hide (HROW.out.alloc (.cells #[.int .i64 0, .nilFunc, .nilFunc, .func (.func 215) #[] #[]] 230))
  replace HO := hide (HO.out.alloc (.cells #[.int .i64 0, .nilFunc, .nilFunc, .func (.func 215) #[] #[]] 230))
  replace HOW := hide (World.ownsRow.alloc HOW.out (.cells #[.int .i64 0, .nilFunc, .nilFunc, .func (.func 215) #[] #[]] 230))
  generalize (v1.alloc (.cells #[.int .i64 0, .nilFunc, .nilFunc, .func (.func 215) #[] #[]] 230)) = u1 at *
  have f0 := HF.out.cell 0; have f1 := HF.out.cell 1; have f2 := HF.out.cell 2; have f3 := HF.out.cell 3; simp at f0 f1 f2 f3
  have mi := HMB.out.cell 8; simp at mi
  clear a0 a1 a2 a3
  have HRN := hide (reads_one u1 9 (.string x8) (u1.heap.size + 1) (Nat.lt_succ_self _))
  replace HMB := hide (HMB.out.alloc (.cells #[.string x8] 9))
  replace HROW := hide (HROW.out.alloc (.cells #[.string x8] 9))
  replace HO := hide (HO.out.alloc (.cells #[.string x8] 9))
  replace HOW := hide (World.ownsRow.alloc HOW.out (.cells #[.string x8] 9))
  replace HBV := hide (show B0 ≤ (u1.alloc (.cells #[.string x8] 9)).heap.size by have := HBV.out; simp; omega)
  go_wp2_with (first | (go_at_call 215; refine (place8 _ _).mono ?_; rintro e w4 ⟨rfl, rfl⟩) | (at_builtin; refine wpList_append_any _ rfl (.tmp 24) (.tmp 30) 60 rfl B0 9 is (.string ByteArray.empty) 1 16 Tryz.underlying60 his hs0 hs1 hs2 rfl (by decide) _ 0 _ rfl HOW.out _ _ 1 1 [.string x8] rfl HRN.out (by simp [Value.oneCell']) (by unfold maxLen; omega) (by omega) HBV.out ?_; intro vv v2 hown1 hg1 _; have hbel := below_row hg1 (fun jj hjj => own_block_ge HOW.out hjj) HBV.out; replace HOW := hide (show v2.ownsRow B0 9 1 vv 1 (strc [x8]) from hown1); replace HMB := hide (HMB.out.below hbel (by have := HD.out; omega)); replace HROW := hide (HROW.out.below hbel (by have := HD.out; omega)); replace HO := hide (only_below HO.out hbel (by have := HD.out; omega)); replace HBV := hide (Nat.le_trans HBV.out hbel.size); clear hown1 hg1 hbel))
  clear f0 f1 f2 f3 mi HF HRN
  rw [rounds_succ]
  have a0 := HROW.out.cell 8; have a1 := HROW.out.cell 9; have a2 := HROW.out.cell 10; have a3 := HROW.out.cell 11
  simp [row3C, numC, txtC] at a0 a1 a2 a3
  go_upto_region 8 with fail
  have HF := hide (Blk.new v2 230 #[.int .i64 0, .nilFunc, .nilFunc, .func (.func 216) #[] #[]])
  replace HBV := hide (show B0 ≤ (v2.alloc (.cells #[.int .i64 0, .nilFunc, .nilFunc, .func (.func 216) #[] #[]] 230)).heap.size by have := HBV.out; simp; omega)
  replace HMB := hide (HMB.out.alloc (.cells #[.int .i64 0, .nilFunc, .nilFunc, .func (.func 216) #[] #[]] 230))
  replace HROW := hide (HROW.out.alloc (.cells #[.int .i64 0, .nilFunc, .nilFunc, .func (.func 216) #[] #[]] 230))
  replace HO := hide (HO.out.alloc (.cells #[.int .i64 0, .nilFunc, .nilFunc, .func (.func 216) #[] #[]] 230))
  replace HOW := hide (World.ownsRow.alloc HOW.out (.cells #[.int .i64 0, .nilFunc, .nilFunc, .func (.func 216) #[] #[]] 230))
  generalize (v2.alloc (.cells #[.int .i64 0, .nilFunc, .nilFunc, .func (.func 216) #[] #[]] 230)) = u2 at *
  have f0 := HF.out.cell 0; have f1 := HF.out.cell 1; have f2 := HF.out.cell 2; have f3 := HF.out.cell 3; simp at f0 f1 f2 f3
  have mi := HMB.out.cell 9; simp at mi
  clear a0 a1 a2 a3
  obtain ⟨A2, c2, rfl, _, _⟩ := own_form HOW.out
  have HRN := hide (reads_one u2 9 (.string x9) (u2.heap.size + 1) (Nat.lt_succ_self _))
  replace HMB := hide (HMB.out.alloc (.cells #[.string x9] 9))
  replace HROW := hide (HROW.out.alloc (.cells #[.string x9] 9))
  replace HO := hide (HO.out.alloc (.cells #[.string x9] 9))
  replace HOW := hide (World.ownsRow.alloc HOW.out (.cells #[.string x9] 9))
  replace HBV := hide (show B0 ≤ (u2.alloc (.cells #[.string x9] 9)).heap.size by have := HBV.out; simp; omega)
  go_wp2_with (first | (go_at_call 216; refine (place9 _ _).mono ?_; rintro e w4 ⟨rfl, rfl⟩) | (at_builtin; refine wpList_append_any _ rfl (.tmp 24) (.tmp 30) 60 rfl B0 9 is (.string ByteArray.empty) 1 16 Tryz.underlying60 his hs0 hs1 hs2 rfl (by decide) _ 1 _ rfl HOW.out _ _ 1 1 [.string x9] rfl HRN.out (by simp [Value.oneCell']) (by unfold maxLen; omega) (by omega) HBV.out ?_; intro vv v3 hown1 hg1 _; have hbel := below_row hg1 (fun jj hjj => own_block_ge HOW.out hjj) HBV.out; replace HOW := hide (show v3.ownsRow B0 9 1 vv 2 (strc [x8, x9]) from hown1); replace HMB := hide (HMB.out.below hbel (by have := HD.out; omega)); replace HROW := hide (HROW.out.below hbel (by have := HD.out; omega)); replace HO := hide (only_below HO.out hbel (by have := HD.out; omega)); replace HBV := hide (Nat.le_trans HBV.out hbel.size); clear hown1 hg1 hbel))
  clear f0 f1 f2 f3 mi HF HRN
  rw [rounds_succ]
  obtain ⟨Az, cz, rfl, _, _⟩ := own_form HOW.out
  go_wp2_with fail
  go_ret
  exact terms_yes HV.out rfl HO.out HOW.out
end
section
open Go.RowKit Go.Deep

set_option maxRecDepth 100000 in
set_option maxHeartbeats 12800000 in
theorem Terms_4 (w : World) (s r c : Nat) (x4 x5 x6 x7 x8 x9 x10 x11 x12 : ByteArray) (hF : (Mg.mk 4 s r c x4 x5 x6 x7 x8 x9 x10 x11 x12).Fine) :
    Calls Tryz.prog 109 #[.agg #[.int .i64 4, .int .u32 (s : Nat), .int .u32 (r : Nat), .int .u64 (c : Nat), .string x4, .string x5, .string x6, .string x7, .string x8, .string x9, .string x10, .string x11, .string x12]] w (TermsPost (Mg.mk 4 s r c x4 x5 x6 x7 x8 x9 x10 x11 x12) w) := by
  have hst := fun (W : World) (a : Addr) (fn : Fn) (c : Array Value) => (run_store Tryz.prog W a (.func fn #[] c) .plain rfl : (store a (.func fn #[] c)).run Tryz.prog W = stored Tryz.prog W a (.func fn #[] c) .plain)
  have hsn := fun (W : World) (a : Addr) => (run_store Tryz.prog W a .nilFunc .plain rfl : (store a .nilFunc).run Tryz.prog W = stored Tryz.prog W a .nilFunc .plain)
  have HP := hide (fun W => proper_4 W s r c x4 x5 x6 x7 x8 x9 x10 x11 x12 hF)
  unfold PropPost at HP
  obtain ⟨hs, hr, hc, hx4, hx5, hx6, hx7, hx8, hx9, hx10, hx11, hx12⟩ := hF
  simp only at hs hr hc hx4 hx5 hx6 hx7 hx8 hx9 hx10 hx11 hx12
  have HMB := hide (Blk.new w 29 #[.int .i64 4, .int .u32 (s : Nat), .int .u32 (r : Nat), .int .u64 (c : Nat), .string x4, .string x5, .string x6, .string x7, .string x8, .string x9, .string x10, .string x11, .string x12])
  have HO := hide ((Only.refl [] w).alloc (.cells #[.int .i64 4, .int .u32 (s : Nat), .int .u32 (r : Nat), .int .u64 (c : Nat), .string x4, .string x5, .string x6, .string x7, .string x8, .string x9, .string x10, .string x11, .string x12] 29))
  have m0 := HMB.out.cell 0; have m1 := HMB.out.cell 1; have m2 := HMB.out.cell 2; have m3 := HMB.out.cell 3; have m4 := HMB.out.cell 4; have m5 := HMB.out.cell 5; have m6 := HMB.out.cell 6; have m7 := HMB.out.cell 7; have m8 := HMB.out.cell 8; have m9 := HMB.out.cell 9; have m10 := HMB.out.cell 10; have m11 := HMB.out.cell 11; have m12 := HMB.out.cell 12; simp at m0 m1 m2 m3 m4 m5 m6 m7 m8 m9 m10 m11 m12
  cases hB : rightM (Mg.mk 4 s r c x4 x5 x6 x7 x8 x9 x10 x11 x12)
  case false =>
    rw [hB] at HP
    have HV := hide hB
    clear hB
    go_enter Tryz.func109, Tryz.ntmps109
    go_wp2_with (go_at_call 138; refine (HP.out _).mono ?_; rintro e w1 ⟨fv, rfl, ho, _⟩; replace HO := hide (HO.out.trans ho); clear ho)
    go_ret
    exact terms_no HV.out HO.out
  rw [hB] at HP
  have HV := hide hB
  have hz10 : x10.size ≤ 65535 := fit_size (by have h := hB; simp [rightM, textsM] at h; simp [h])
  clear hB
  obtain ⟨is, his, hs0, hs1, hs2⟩ := info_parts (show (Tryz.prog.info? 9).map (fun i => (i.zero, i.size, i.bytes)) = some (some (.string ByteArray.empty), 1, 16) by kernel_rfl)
  go_enter Tryz.func109, Tryz.ntmps109
  go_upto_region 6 with (go_at_call 138; refine (HP.out _).mono ?_; rintro e w1 ⟨fv, rfl, ho, hz⟩; obtain ⟨g, b1, b2, rfl, hg, hb1, hb2, hrow, hx1, hx2⟩ := hz (by trivial); rw [World.size_alloc] at hg hb1 hb2; have HROW := hide hrow; replace HMB := hide (HMB.out.only ho (by simp)); replace HO := hide (HO.out.trans ho); clear hg hb1 hb2 hrow hx1 hx2 ho hz m0 m1 m2 m3 m4 m5 m6 m7 m8 m9 m10 m11 m12)
  have HD := hide (show w.heap.size < w1.heap.size ∧ g < w1.heap.size from ⟨HMB.out.lt, HROW.out.lt⟩)
  have HOW := hide (show w1.ownsRow w1.heap.size 9 1 (.slice none 0 0) 0 (strc []) from ⟨rfl, .inl ⟨rfl, rfl⟩⟩)
  have HBV := hide (Nat.le_refl w1.heap.size)
  obtain ⟨B0, hB0⟩ : ∃ B0, B0 = w1.heap.size := ⟨_, rfl⟩
  have HBV := hide (show B0 ≤ w1.heap.size by omega)
  rw [← hB0] at HD HOW
  clear hB0
  obtain ⟨v0, rfl⟩ : ∃ v0, v0 = w1 := ⟨w1, rfl⟩
  refine wp_loop_rounds 4 ?_
  rw [rounds_succ]
  have a0 := HROW.out.cell 0; have a1 := HROW.out.cell 1; have a2 := HROW.out.cell 2; have a3 := HROW.out.cell 3
  simp [row4C, numC, txtC, cntC] at a0 a1 a2 a3
  go_upto_region 8 with fail
  have HF := hide (Blk.new v0 230 #[.int .i64 4, .func (.func 238) #[] #[.pointer (some ⟨b2, 0, none⟩)], .func (.func 239) #[] #[.pointer (some ⟨b2, 0, none⟩)], .nilFunc])
  replace HBV := hide (show B0 ≤ (v0.alloc (.cells #[.int .i64 4, .func (.func 238) #[] #[.pointer (some ⟨b2, 0, none⟩)], .func (.func 239) #[] #[.pointer (some ⟨b2, 0, none⟩)], .nilFunc] 230)).heap.size by have := HBV.out; simp; omega)
  replace HMB := hide (HMB.out.alloc (.cells #[.int .i64 4, .func (.func 238) #[] #[.pointer (some ⟨b2, 0, none⟩)], .func (.func 239) #[] #[.pointer (some ⟨b2, 0, none⟩)], .nilFunc] 230))
  replace HROW := hide (HROW.out.alloc (.cells #[.int .i64 4, .func (.func 238) #[] #[.pointer (some ⟨b2, 0, none⟩)], .func (.func 239) #[] #[.pointer (some ⟨b2, 0, none⟩)], .nilFunc] 230))
  replace HO := hide (HO.out.alloc (.cells #[.int .i64 4, .func (.func 238) #[] #[.pointer (some ⟨b2, 0, none⟩)], .func (.func 239) #[] #[.pointer (some ⟨b2, 0, none⟩)], .nilFunc] 230))
  replace HOW := hide (World.ownsRow.alloc HOW.out (.cells #[.int .i64 4, .func (.func 238) #[] #[.pointer (some ⟨b2, 0, none⟩)], .func (.func 239) #[] #[.pointer (some ⟨b2, 0, none⟩)], .nilFunc] 230))
  generalize (v0.alloc (.cells #[.int .i64 4, .func (.func 238) #[] #[.pointer (some ⟨b2, 0, none⟩)], .func (.func 239) #[] #[.pointer (some ⟨b2, 0, none⟩)], .nilFunc] 230)) = u0 at *
  have f0 := HF.out.cell 0; have f1 := HF.out.cell 1; have f2 := HF.out.cell 2; have f3 := HF.out.cell 3; simp at f0 f1 f2 f3
  have mi := HMB.out.cell 2; simp at mi
  clear a0 a1 a2 a3
  go_wp2_with fail
  obtain ⟨v1, rfl⟩ : ∃ v, v = u0 := ⟨u0, rfl⟩
  clear f0 f1 f2 f3 mi HF
  rw [rounds_succ]
  have a0 := HROW.out.cell 4; have a1 := HROW.out.cell 5; have a2 := HROW.out.cell 6; have a3 := HROW.out.cell 7
  simp [row4C, numC, txtC, cntC] at a0 a1 a2 a3
  go_upto_region 8 with fail
  have HF := hide (Blk.new v1 230 #[.int .i64 8, .func (.func 217) #[] #[], .func (.func 218) #[] #[], .nilFunc])
  replace HBV := hide (show B0 ≤ (v1.alloc (.cells #[.int .i64 8, .func (.func 217) #[] #[], .func (.func 218) #[] #[], .nilFunc] 230)).heap.size by have := HBV.out; simp; omega)
  replace HMB := hide (HMB.out.alloc (.cells #[.int .i64 8, .func (.func 217) #[] #[], .func (.func 218) #[] #[], .nilFunc] 230))
  replace HROW := hide (HROW.out.alloc (.cells #[.int .i64 8, .func (.func 217) #[] #[], .func (.func 218) #[] #[], .nilFunc] 230))
  replace HO := hide (HO.out.alloc (.cells #[.int .i64 8, .func (.func 217) #[] #[], .func (.func 218) #[] #[], .nilFunc] 230))
  replace HOW := hide (World.ownsRow.alloc HOW.out (.cells #[.int .i64 8, .func (.func 217) #[] #[], .func (.func 218) #[] #[], .nilFunc] 230))
  generalize (v1.alloc (.cells #[.int .i64 8, .func (.func 217) #[] #[], .func (.func 218) #[] #[], .nilFunc] 230)) = u1 at *
  have f0 := HF.out.cell 0; have f1 := HF.out.cell 1; have f2 := HF.out.cell 2; have f3 := HF.out.cell 3; simp at f0 f1 f2 f3
  have mi := HMB.out.cell 3; simp at mi
  clear a0 a1 a2 a3
  go_wp2_with fail
  obtain ⟨v2, rfl⟩ : ∃ v, v = u1 := ⟨u1, rfl⟩
  clear f0 f1 f2 f3 mi HF
  rw [rounds_succ]
  have a0 := HROW.out.cell 8; have a1 := HROW.out.cell 9; have a2 := HROW.out.cell 10; have a3 := HROW.out.cell 11
  simp [row4C, numC, txtC, cntC] at a0 a1 a2 a3
  go_upto_region 8 with fail
  have HF := hide (Blk.new v2 230 #[.int .i64 0, .nilFunc, .nilFunc, .func (.func 219) #[] #[]])
  replace HBV := hide (show B0 ≤ (v2.alloc (.cells #[.int .i64 0, .nilFunc, .nilFunc, .func (.func 219) #[] #[]] 230)).heap.size by have := HBV.out; simp; omega)
  replace HMB := hide (HMB.out.alloc (.cells #[.int .i64 0, .nilFunc, .nilFunc, .func (.func 219) #[] #[]] 230))
  replace HROW := hide (HROW.out.alloc (.cells #[.int .i64 0, .nilFunc, .nilFunc, .func (.func 219) #[] #[]] 230))
  replace HO := hide (HO.out.alloc (.cells #[.int .i64 0, .nilFunc, .nilFunc, .func (.func 219) #[] #[]] 230))
  replace HOW := hide (World.ownsRow.alloc HOW.out (.cells #[.int .i64 0, .nilFunc, .nilFunc, .func (.func 219) #[] #[]] 230))
  generalize (v2.alloc (.cells #[.int .i64 0, .nilFunc, .nilFunc, .func (.func 219) #[] #[]] 230)) = u2 at *
  have f0 := HF.out.cell 0; have f1 := HF.out.cell 1; have f2 := HF.out.cell 2; have f3 := HF.out.cell 3; simp at f0 f1 f2 f3
  have mi := HMB.out.cell 10; simp at mi
  clear a0 a1 a2 a3
  have HRN := hide (reads_one u2 9 (.string x10) (u2.heap.size + 1) (Nat.lt_succ_self _))
  replace HMB := hide (HMB.out.alloc (.cells #[.string x10] 9))
  replace HROW := hide (HROW.out.alloc (.cells #[.string x10] 9))
  replace HO := hide (HO.out.alloc (.cells #[.string x10] 9))
  replace HOW := hide (World.ownsRow.alloc HOW.out (.cells #[.string x10] 9))
  replace HBV := hide (show B0 ≤ (u2.alloc (.cells #[.string x10] 9)).heap.size by have := HBV.out; simp; omega)
  go_wp2_with (first | (go_at_call 219; refine (place10 _ _).mono ?_; rintro e w4 ⟨rfl, rfl⟩) | (at_builtin; refine wpList_append_any _ rfl (.tmp 24) (.tmp 30) 60 rfl B0 9 is (.string ByteArray.empty) 1 16 Tryz.underlying60 his hs0 hs1 hs2 rfl (by decide) _ 0 _ rfl HOW.out _ _ 1 1 [.string x10] rfl HRN.out (by simp [Value.oneCell']) (by unfold maxLen; omega) (by omega) HBV.out ?_; intro vv v3 hown1 hg1 _; have hbel := below_row hg1 (fun jj hjj => own_block_ge HOW.out hjj) HBV.out; replace HOW := hide (show v3.ownsRow B0 9 1 vv 1 (strc [x10]) from hown1); replace HMB := hide (HMB.out.below hbel (by have := HD.out; omega)); replace HROW := hide (HROW.out.below hbel (by have := HD.out; omega)); replace HO := hide (only_below HO.out hbel (by have := HD.out; omega)); replace HBV := hide (Nat.le_trans HBV.out hbel.size); clear hown1 hg1 hbel))
  clear f0 f1 f2 f3 mi HF HRN
  rw [rounds_succ]
  obtain ⟨Az, cz, rfl, _, _⟩ := own_form HOW.out
  go_wp2_with fail
  go_ret
  exact terms_yes HV.out rfl HO.out HOW.out
end
section
open Go.RowKit Go.Deep

theorem right_none {m : Mg} (h : ¬ (1 ≤ m.k ∧ m.k ≤ 4)) : rightM m = false := by unfold rightM; rw [decide_eq_false h]; rfl
set_option maxRecDepth 100000 in
set_option maxHeartbeats 3200000 in
theorem proper_none (w : World) (m : Mg) (h : ¬ (1 ≤ m.k ∧ m.k ≤ 4)) : Calls Tryz.prog 138 #[.agg m.cells] w fun e w' => e = .returned (.tuple #[.slice none 0 0, .bool false]) ∧ Only [] w w' := by
  have HMB := hide (Blk.new w 29 m.cells)
  have HO := hide ((Only.refl [] w).alloc (.cells m.cells 29))
  have a1 : (m.k == 1) = false := by rw [beq_eq_false_iff_ne]; omega
  have a2 : (m.k == 2) = false := by rw [beq_eq_false_iff_ne]; omega
  have a3 : (m.k == 3) = false := by rw [beq_eq_false_iff_ne]; omega
  have a4 : (m.k == 4) = false := by rw [beq_eq_false_iff_ne]; omega
  have HRW := hide (fun W => row_none m.k a1 a2 a3 a4 W)
  obtain ⟨k, s, r, c, x4, x5, x6, x7, x8, x9, x10, x11, x12⟩ := m
  unfold Mg.cells at HMB HO ⊢
  simp only at HMB HO HRW ⊢
  have m0 := HMB.out.cell 0
  simp at m0
  clear h a1 a2 a3 a4
  go_enter Tryz.func138, Tryz.ntmps138
  go_wp2_with (go_at_call 174; refine (HRW.out _).mono ?_; rintro e w1 ⟨rfl, ho⟩; replace HO := hide (HO.out.trans ho); clear ho)
  go_ret2
  exact ⟨rfl, HO.out⟩
set_option maxRecDepth 100000 in
set_option maxHeartbeats 3200000 in
theorem Terms_none (w : World) (m : Mg) (h : ¬ (1 ≤ m.k ∧ m.k ≤ 4)) : Calls Tryz.prog 109 #[.agg m.cells] w (TermsPost m w) := by
  have HMB := hide (Blk.new w 29 m.cells)
  have HO := hide ((Only.refl [] w).alloc (.cells m.cells 29))
  have HP := hide (fun W => proper_none W m h)
  have HV := hide (right_none h)
  obtain ⟨k, s, r, c, x4, x5, x6, x7, x8, x9, x10, x11, x12⟩ := m
  unfold Mg.cells at HMB HO HP ⊢
  simp only at HMB HO HP ⊢
  have m0 := HMB.out.cell 0; have m1 := HMB.out.cell 1; have m2 := HMB.out.cell 2; have m3 := HMB.out.cell 3; have m4 := HMB.out.cell 4; have m5 := HMB.out.cell 5; have m6 := HMB.out.cell 6; have m7 := HMB.out.cell 7; have m8 := HMB.out.cell 8; have m9 := HMB.out.cell 9; have m10 := HMB.out.cell 10; have m11 := HMB.out.cell 11; have m12 := HMB.out.cell 12; simp at m0 m1 m2 m3 m4 m5 m6 m7 m8 m9 m10 m11 m12
  clear h
  go_enter Tryz.func109, Tryz.ntmps109
  go_wp2_with (go_at_call 138; refine (HP.out _).mono ?_; rintro e w1 ⟨rfl, ho⟩; replace HO := hide (HO.out.trans ho); clear ho)
  go_ret
  exact terms_no HV.out HO.out
theorem kinds (k : Int) : k = 1 ∨ k = 2 ∨ k = 3 ∨ k = 4 ∨ ¬ (1 ≤ k ∧ k ≤ 4) := by omega
theorem Terms_any (w : World) (m : Mg) (hF : m.Fine) : Calls Tryz.prog 109 #[.agg m.cells] w (TermsPost m w) := by
  obtain ⟨k, s, r, c, x4, x5, x6, x7, x8, x9, x10, x11, x12⟩ := m
  rcases kinds k with rfl | rfl | rfl | rfl | h
  · exact Terms_1 w s r c x4 x5 x6 x7 x8 x9 x10 x11 x12 hF
  · exact Terms_2 w s r c x4 x5 x6 x7 x8 x9 x10 x11 x12 hF
  · exact Terms_3 w s r c x4 x5 x6 x7 x8 x9 x10 x11 x12 hF
  · exact Terms_4 w s r c x4 x5 x6 x7 x8 x9 x10 x11 x12 hF
  · exact Terms_none w _ h
end
section
open Go.RowKit Go.Deep

theorem dec_split (u : Nat) (h : ¬ u < 10) : Lib.decDigits u = Lib.decDigits (u / 10) ++ [UInt8.ofNat (48 + u % 10)] := by
  rw [Lib.decDigits, dif_neg h]
theorem dec_len (u : Nat) (h : u < 18446744073709551616) : (Lib.decDigits u).length ≤ 20 := by
  rw [Lib.decDigits_length]
  rcases Nat.eq_zero_or_pos u with h0 | h0
  · subst h0; rw [Lib.nDigits_small (by omega)]; omega
  · have := Lib.numDigits_eq u h0 h
    split at this <;> omega
end
section
open Go.RowKit Go.Deep

theorem hd_eq (n : Nat) (h : n < 16) (c : UInt8) : (hd n).toNat = c.toNat ↔ (hexB c = true ∧ nib c = n) := by
  rw [hd_nat n h]
  have hc := c.toNat_lt
  unfold hexB nib signV
  by_cases h1 : n < 10
  · rw [if_pos h1]
    constructor
    · intro e
      rw [if_pos (by omega)]
      exact ⟨by simp; omega, by omega⟩
    · rintro ⟨a, b⟩
      split at b
      · omega
      · split at b <;> rename_i h2 h3
        · omega
        · simp only [h2, h3, if_false] at a
          simp at a
  · rw [if_neg h1]
    constructor
    · intro e
      rw [if_neg (by omega), if_pos (by omega)]
      exact ⟨by simp; omega, by omega⟩
    · rintro ⟨a, b⟩
      split at b
      · omega
      · split at b <;> rename_i h2 h3
        · omega
        · omega
end
section
open Go.RowKit Go.Deep

theorem ext_take (s : ByteArray) (p n : Nat) : (s.extract p (p + n)).data.toList = (s.data.toList.drop p).take n := by
  rw [ByteArray.data_extract, Array.toList_extract]
  simp [List.extract]
theorem take_while_take (l : List UInt8) (f : UInt8 → Bool) : l.take (l.takeWhile f).length = l.takeWhile f := by
  induction l with
  | nil => rfl
  | cons c r ih =>
    by_cases h : f c = true
    · rw [List.takeWhile_cons_of_pos h]; simp [ih]
    · rw [List.takeWhile_cons_of_neg h]; rfl
theorem fits_zero {k : Int} (h : 5 ≤ k) (h2 : k ≤ 11) : fitsV k 0 = decide (k = 11) := by
  rcases (show k = 5 ∨ k = 6 ∨ k = 7 ∨ k = 8 ∨ k = 9 ∨ k = 10 ∨ k = 11 by omega) with rfl | rfl | rfl | rfl | rfl | rfl | rfl
  all_goals decide
theorem kind_le (c : Int) : 0 ≤ kindV c ∧ kindV c ≤ 11 := by
  unfold kindV
  repeat' split
  all_goals omega
end
end Go.Proofs.YtcokjoidpnfjhaaGreatDoor

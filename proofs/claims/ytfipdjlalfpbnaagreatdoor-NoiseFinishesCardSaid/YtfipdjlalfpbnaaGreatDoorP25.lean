/-
  Walks and plain words (texts Wt3, Wt4, Wm, Wq1, La, Lm, Ws0, Tz). No condition beyond those that each theorem states.
-/
import Derived.StillTailTactics
import Derived.Test.YtfipdjlalfpbnaaGreatDoorChecked
import Derived.Test.YtfipdjlalfpbnaaGreatDoorP01
import Derived.Test.YtfipdjlalfpbnaaGreatDoorP19
import Derived.Test.YtfipdjlalfpbnaaGreatDoorP20
import Derived.Test.YtfipdjlalfpbnaaGreatDoorP21
import Derived.Test.YtfipdjlalfpbnaaGreatDoorP22
import Derived.Test.YtfipdjlalfpbnaaGreatDoorP23
import Derived.Test.YtfipdjlalfpbnaaGreatDoorP24
namespace Go.Proofs.YtfipdjlalfpbnaaGreatDoor
section
open Go.RowKit Go.Deep

set_option maxRecDepth 100000 in
set_option maxHeartbeats 12800000 in
theorem Terms_3 (w : World) (s r c : Nat) (x4 x5 x6 x7 x8 x9 x10 x11 x12 : ByteArray) (hF : (Mg.mk 3 s r c x4 x5 x6 x7 x8 x9 x10 x11 x12).Fine) :
    Calls Tryz.prog 56 #[.agg #[.int .i64 3, .int .u32 (s : Nat), .int .u32 (r : Nat), .int .u64 (c : Nat), .string x4, .string x5, .string x6, .string x7, .string x8, .string x9, .string x10, .string x11, .string x12]] w (TermsPost (Mg.mk 3 s r c x4 x5 x6 x7 x8 x9 x10 x11 x12) w) := by
  have hst := fun (W : World) (a : Addr) (fn : Fn) (c : Array Value) => (run_store Tryz.prog W a (.func fn #[] c) .plain rfl : (store a (.func fn #[] c)).run Tryz.prog W = stored Tryz.prog W a (.func fn #[] c) .plain)
  have hsn := fun (W : World) (a : Addr) => (run_store Tryz.prog W a .nilFunc .plain rfl : (store a .nilFunc).run Tryz.prog W = stored Tryz.prog W a .nilFunc .plain)
  have HP := hide (fun W => proper_3 W s r c x4 x5 x6 x7 x8 x9 x10 x11 x12 hF)
  unfold PropPost at HP
  obtain ⟨hs, hr, hc, hx4, hx5, hx6, hx7, hx8, hx9, hx10, hx11, hx12⟩ := hF
  simp only at hs hr hc hx4 hx5 hx6 hx7 hx8 hx9 hx10 hx11 hx12
  have HMB := hide (Blk.new w 25 #[.int .i64 3, .int .u32 (s : Nat), .int .u32 (r : Nat), .int .u64 (c : Nat), .string x4, .string x5, .string x6, .string x7, .string x8, .string x9, .string x10, .string x11, .string x12])
  have HO := hide ((Only.refl [] w).alloc (.cells #[.int .i64 3, .int .u32 (s : Nat), .int .u32 (r : Nat), .int .u64 (c : Nat), .string x4, .string x5, .string x6, .string x7, .string x8, .string x9, .string x10, .string x11, .string x12] 25))
  have m0 := HMB.out.cell 0; have m1 := HMB.out.cell 1; have m2 := HMB.out.cell 2; have m3 := HMB.out.cell 3; have m4 := HMB.out.cell 4; have m5 := HMB.out.cell 5; have m6 := HMB.out.cell 6; have m7 := HMB.out.cell 7; have m8 := HMB.out.cell 8; have m9 := HMB.out.cell 9; have m10 := HMB.out.cell 10; have m11 := HMB.out.cell 11; have m12 := HMB.out.cell 12; simp at m0 m1 m2 m3 m4 m5 m6 m7 m8 m9 m10 m11 m12
  cases hB : rightM (Mg.mk 3 s r c x4 x5 x6 x7 x8 x9 x10 x11 x12)
  case false =>
    rw [hB] at HP
    have HV := hide hB
    clear hB
    go_enter Tryz.func56, Tryz.ntmps56
    go_wp2_with (go_at_call 108; refine (HP.out _).mono ?_; rintro e w1 ⟨fv, rfl, ho, _⟩; replace HO := hide (HO.out.trans ho); clear ho)
    go_ret
    exact terms_no HV.out HO.out
  rw [hB] at HP
  have HV := hide hB
  have hz8 : x8.size ≤ 65535 := fit_size (by have h := hB; simp [rightM, textsM] at h; simp [h])
  have hz9 : x9.size ≤ 65535 := fit_size (by have h := hB; simp [rightM, textsM] at h; simp [h])
  clear hB
  obtain ⟨is, his, hs0, hs1, hs2⟩ := info_parts (show (Tryz.prog.info? 9).map (fun i => (i.zero, i.size, i.bytes)) = some (some (.string ByteArray.empty), 1, 16) by kernel_rfl)
  go_enter Tryz.func56, Tryz.ntmps56
  go_upto_region 6 with (go_at_call 108; refine (HP.out _).mono ?_; rintro e w1 ⟨fv, rfl, ho, hz⟩; obtain ⟨g, b1, b2, rfl, hg, hb1, hb2, hrow, hx1, hx2⟩ := hz (by trivial); rw [World.size_alloc] at hg hb1 hb2; have HROW := hide hrow; replace HMB := hide (HMB.out.only ho (by simp)); replace HO := hide (HO.out.trans ho); clear hg hb1 hb2 hrow hx1 hx2 ho hz m0 m1 m2 m3 m4 m5 m6 m7 m8 m9 m10 m11 m12)
  have HD := hide (show w.heap.size < w1.heap.size ∧ g < w1.heap.size from ⟨HMB.out.lt, HROW.out.lt⟩)
  have HOW := hide (show w1.ownsRow w1.heap.size 9 1 (.slice none 0 0) 0 (strc []) from ⟨rfl, .inl ⟨rfl, rfl⟩⟩)
  have HBV := hide (Nat.le_refl w1.heap.size)
  obtain ⟨B0, hB0⟩ : ∃ B0, B0 = w1.heap.size := ⟨_, rfl⟩
  have HBV := hide (show B0 ≤ w1.heap.size by omega)
  rw [← hB0] at HD HOW
  clear hB0
  obtain ⟨v0, rfl⟩ : ∃ v0, v0 = w1 := ⟨w1, rfl⟩
  refine wp_loop_rounds 4 ?_
  rw [rounds_succ]
  have a0 := HROW.out.cell 0; have a1 := HROW.out.cell 1; have a2 := HROW.out.cell 2; have a3 := HROW.out.cell 3
  simp [row3C, numC, txtC] at a0 a1 a2 a3
  go_upto_region 8 with fail
  have HF := hide (Blk.new v0 155 #[.int .i64 4, .func (.func 169) #[] #[.pointer (some ⟨b2, 0, none⟩)], .func (.func 170) #[] #[.pointer (some ⟨b2, 0, none⟩)], .nilFunc])
  replace HBV := hide (show B0 ≤ (v0.alloc (.cells #[.int .i64 4, .func (.func 169) #[] #[.pointer (some ⟨b2, 0, none⟩)], .func (.func 170) #[] #[.pointer (some ⟨b2, 0, none⟩)], .nilFunc] 155)).heap.size by have := HBV.out; simp; omega)
  replace HMB := hide (HMB.out.alloc (.cells #[.int .i64 4, .func (.func 169) #[] #[.pointer (some ⟨b2, 0, none⟩)], .func (.func 170) #[] #[.pointer (some ⟨b2, 0, none⟩)], .nilFunc] 155))
  replace HROW := hide (HROW.out.alloc (.cells #[.int .i64 4, .func (.func 169) #[] #[.pointer (some ⟨b2, 0, none⟩)], .func (.func 170) #[] #[.pointer (some ⟨b2, 0, none⟩)], .nilFunc] 155))
  replace HO := hide (HO.out.alloc (.cells #[.int .i64 4, .func (.func 169) #[] #[.pointer (some ⟨b2, 0, none⟩)], .func (.func 170) #[] #[.pointer (some ⟨b2, 0, none⟩)], .nilFunc] 155))
  replace HOW := hide (World.ownsRow.alloc HOW.out (.cells #[.int .i64 4, .func (.func 169) #[] #[.pointer (some ⟨b2, 0, none⟩)], .func (.func 170) #[] #[.pointer (some ⟨b2, 0, none⟩)], .nilFunc] 155))
  generalize (v0.alloc (.cells #[.int .i64 4, .func (.func 169) #[] #[.pointer (some ⟨b2, 0, none⟩)], .func (.func 170) #[] #[.pointer (some ⟨b2, 0, none⟩)], .nilFunc] 155)) = u0 at *
  have f0 := HF.out.cell 0; have f1 := HF.out.cell 1; have f2 := HF.out.cell 2; have f3 := HF.out.cell 3; simp at f0 f1 f2 f3
  have mi := HMB.out.cell 2; simp at mi
  clear a0 a1 a2 a3
  go_wp2_with fail
  obtain ⟨v1, rfl⟩ : ∃ v, v = u0 := ⟨u0, rfl⟩
  clear f0 f1 f2 f3 mi HF
  rw [rounds_succ]
  have a0 := HROW.out.cell 4; have a1 := HROW.out.cell 5; have a2 := HROW.out.cell 6; have a3 := HROW.out.cell 7
  simp [row3C, numC, txtC] at a0 a1 a2 a3
  go_upto_region 8 with fail
  have HF := hide (Blk.new v1 155 #[.int .i64 0, .nilFunc, .nilFunc, .func (.func 158) #[] #[]])
  replace HBV := hide (show B0 ≤ (v1.alloc (.cells #[.int .i64 0, .nilFunc, .nilFunc, .func (.func 158) #[] #[]] 155)).heap.size by have := HBV.out; simp; omega)
  replace HMB := hide (HMB.out.alloc (.cells #[.int .i64 0, .nilFunc, .nilFunc, .func (.func 158) #[] #[]] 155))
  replace HROW := hide (HROW.out.alloc (.cells #[.int .i64 0, .nilFunc, .nilFunc, .func (.func 158) #[] #[]] 155))
  replace HO := hide (HO.out.alloc (.cells #[.int .i64 0, .nilFunc, .nilFunc, .func (.func 158) #[] #[]] 155))
  replace HOW := hide (World.ownsRow.alloc HOW.out (.cells #[.int .i64 0, .nilFunc, .nilFunc, .func (.func 158) #[] #[]] 155))
  generalize (v1.alloc (.cells #[.int .i64 0, .nilFunc, .nilFunc, .func (.func 158) #[] #[]] 155)) = u1 at *
  have f0 := HF.out.cell 0; have f1 := HF.out.cell 1; have f2 := HF.out.cell 2; have f3 := HF.out.cell 3; simp at f0 f1 f2 f3
  have mi := HMB.out.cell 8; simp at mi
  clear a0 a1 a2 a3
  have HRN := hide (reads_one u1 9 (.string x8) (u1.heap.size + 1) (Nat.lt_succ_self _))
  replace HMB := hide (HMB.out.alloc (.cells #[.string x8] 9))
  replace HROW := hide (HROW.out.alloc (.cells #[.string x8] 9))
  replace HO := hide (HO.out.alloc (.cells #[.string x8] 9))
  replace HOW := hide (World.ownsRow.alloc HOW.out (.cells #[.string x8] 9))
  replace HBV := hide (show B0 ≤ (u1.alloc (.cells #[.string x8] 9)).heap.size by have := HBV.out; simp; omega)
  go_wp2_with (first | (go_at_call 158; refine (place8 _ _).mono ?_; rintro e w4 ⟨rfl, rfl⟩) | (at_builtin; refine wpList_append_any _ rfl (.tmp 24) (.tmp 30) 75 rfl B0 9 is (.string ByteArray.empty) 1 16 Tryz.underlying75 his hs0 hs1 hs2 rfl (by decide) _ 0 _ rfl HOW.out _ _ 1 1 [.string x8] rfl HRN.out (by simp [Value.oneCell']) (by unfold maxLen; omega) (by omega) HBV.out ?_; intro vv v2 hown1 hg1 _; have hbel := below_row hg1 (fun jj hjj => own_block_ge HOW.out hjj) HBV.out; replace HOW := hide (show v2.ownsRow B0 9 1 vv 1 (strc [x8]) from hown1); replace HMB := hide (HMB.out.below hbel (by have := HD.out; omega)); replace HROW := hide (HROW.out.below hbel (by have := HD.out; omega)); replace HO := hide (only_below HO.out hbel (by have := HD.out; omega)); replace HBV := hide (Nat.le_trans HBV.out hbel.size); clear hown1 hg1 hbel))
  clear f0 f1 f2 f3 mi HF HRN
  rw [rounds_succ]
  have a0 := HROW.out.cell 8; have a1 := HROW.out.cell 9; have a2 := HROW.out.cell 10; have a3 := HROW.out.cell 11
  simp [row3C, numC, txtC] at a0 a1 a2 a3
  go_upto_region 8 with fail
  have HF := hide (Blk.new v2 155 #[.int .i64 0, .nilFunc, .nilFunc, .func (.func 159) #[] #[]])
  replace HBV := hide (show B0 ≤ (v2.alloc (.cells #[.int .i64 0, .nilFunc, .nilFunc, .func (.func 159) #[] #[]] 155)).heap.size by have := HBV.out; simp; omega)
  replace HMB := hide (HMB.out.alloc (.cells #[.int .i64 0, .nilFunc, .nilFunc, .func (.func 159) #[] #[]] 155))
  replace HROW := hide (HROW.out.alloc (.cells #[.int .i64 0, .nilFunc, .nilFunc, .func (.func 159) #[] #[]] 155))
  replace HO := hide (HO.out.alloc (.cells #[.int .i64 0, .nilFunc, .nilFunc, .func (.func 159) #[] #[]] 155))
  replace HOW := hide (World.ownsRow.alloc HOW.out (.cells #[.int .i64 0, .nilFunc, .nilFunc, .func (.func 159) #[] #[]] 155))
  generalize (v2.alloc (.cells #[.int .i64 0, .nilFunc, .nilFunc, .func (.func 159) #[] #[]] 155)) = u2 at *
  have f0 := HF.out.cell 0; have f1 := HF.out.cell 1; have f2 := HF.out.cell 2; have f3 := HF.out.cell 3; simp at f0 f1 f2 f3
  have mi := HMB.out.cell 9; simp at mi
  clear a0 a1 a2 a3
  obtain ⟨A2, c2, rfl, _, _⟩ := own_form HOW.out
  have HRN := hide (reads_one u2 9 (.string x9) (u2.heap.size + 1) (Nat.lt_succ_self _))
  replace HMB := hide (HMB.out.alloc (.cells #[.string x9] 9))
  replace HROW := hide (HROW.out.alloc (.cells #[.string x9] 9))
  replace HO := hide (HO.out.alloc (.cells #[.string x9] 9))
  replace HOW := hide (World.ownsRow.alloc HOW.out (.cells #[.string x9] 9))
  replace HBV := hide (show B0 ≤ (u2.alloc (.cells #[.string x9] 9)).heap.size by have := HBV.out; simp; omega)
  go_wp2_with (first | (go_at_call 159; refine (place9 _ _).mono ?_; rintro e w4 ⟨rfl, rfl⟩) | (at_builtin; refine wpList_append_any _ rfl (.tmp 24) (.tmp 30) 75 rfl B0 9 is (.string ByteArray.empty) 1 16 Tryz.underlying75 his hs0 hs1 hs2 rfl (by decide) _ 1 _ rfl HOW.out _ _ 1 1 [.string x9] rfl HRN.out (by simp [Value.oneCell']) (by unfold maxLen; omega) (by omega) HBV.out ?_; intro vv v3 hown1 hg1 _; have hbel := below_row hg1 (fun jj hjj => own_block_ge HOW.out hjj) HBV.out; replace HOW := hide (show v3.ownsRow B0 9 1 vv 2 (strc [x8, x9]) from hown1); replace HMB := hide (HMB.out.below hbel (by have := HD.out; omega)); replace HROW := hide (HROW.out.below hbel (by have := HD.out; omega)); replace HO := hide (only_below HO.out hbel (by have := HD.out; omega)); replace HBV := hide (Nat.le_trans HBV.out hbel.size); clear hown1 hg1 hbel))
  clear f0 f1 f2 f3 mi HF HRN
  rw [rounds_succ]
  obtain ⟨Az, cz, rfl, _, _⟩ := own_form HOW.out
  go_wp2_with fail
  go_ret
  exact terms_yes HV.out rfl HO.out HOW.out
end
section
open Go.RowKit Go.Deep

set_option maxRecDepth 100000 in
set_option maxHeartbeats 12800000 in
theorem Terms_4 (w : World) (s r c : Nat) (x4 x5 x6 x7 x8 x9 x10 x11 x12 : ByteArray) (hF : (Mg.mk 4 s r c x4 x5 x6 x7 x8 x9 x10 x11 x12).Fine) :
    Calls Tryz.prog 56 #[.agg #[.int .i64 4, .int .u32 (s : Nat), .int .u32 (r : Nat), .int .u64 (c : Nat), .string x4, .string x5, .string x6, .string x7, .string x8, .string x9, .string x10, .string x11, .string x12]] w (TermsPost (Mg.mk 4 s r c x4 x5 x6 x7 x8 x9 x10 x11 x12) w) := by
  have hst := fun (W : World) (a : Addr) (fn : Fn) (c : Array Value) => (run_store Tryz.prog W a (.func fn #[] c) .plain rfl : (store a (.func fn #[] c)).run Tryz.prog W = stored Tryz.prog W a (.func fn #[] c) .plain)
  have hsn := fun (W : World) (a : Addr) => (run_store Tryz.prog W a .nilFunc .plain rfl : (store a .nilFunc).run Tryz.prog W = stored Tryz.prog W a .nilFunc .plain)
  have HP := hide (fun W => proper_4 W s r c x4 x5 x6 x7 x8 x9 x10 x11 x12 hF)
  unfold PropPost at HP
  obtain ⟨hs, hr, hc, hx4, hx5, hx6, hx7, hx8, hx9, hx10, hx11, hx12⟩ := hF
  simp only at hs hr hc hx4 hx5 hx6 hx7 hx8 hx9 hx10 hx11 hx12
  have HMB := hide (Blk.new w 25 #[.int .i64 4, .int .u32 (s : Nat), .int .u32 (r : Nat), .int .u64 (c : Nat), .string x4, .string x5, .string x6, .string x7, .string x8, .string x9, .string x10, .string x11, .string x12])
  have HO := hide ((Only.refl [] w).alloc (.cells #[.int .i64 4, .int .u32 (s : Nat), .int .u32 (r : Nat), .int .u64 (c : Nat), .string x4, .string x5, .string x6, .string x7, .string x8, .string x9, .string x10, .string x11, .string x12] 25))
  have m0 := HMB.out.cell 0; have m1 := HMB.out.cell 1; have m2 := HMB.out.cell 2; have m3 := HMB.out.cell 3; have m4 := HMB.out.cell 4; have m5 := HMB.out.cell 5; have m6 := HMB.out.cell 6; have m7 := HMB.out.cell 7; have m8 := HMB.out.cell 8; have m9 := HMB.out.cell 9; have m10 := HMB.out.cell 10; have m11 := HMB.out.cell 11; have m12 := HMB.out.cell 12; simp at m0 m1 m2 m3 m4 m5 m6 m7 m8 m9 m10 m11 m12
  cases hB : rightM (Mg.mk 4 s r c x4 x5 x6 x7 x8 x9 x10 x11 x12)
  case false =>
    rw [hB] at HP
    have HV := hide hB
    clear hB
    go_enter Tryz.func56, Tryz.ntmps56
    go_wp2_with (go_at_call 108; refine (HP.out _).mono ?_; rintro e w1 ⟨fv, rfl, ho, _⟩; replace HO := hide (HO.out.trans ho); clear ho)
    go_ret
    exact terms_no HV.out HO.out
  rw [hB] at HP
  have HV := hide hB
  have hz10 : x10.size ≤ 65535 := fit_size (by have h := hB; simp [rightM, textsM] at h; simp [h])
  clear hB
  obtain ⟨is, his, hs0, hs1, hs2⟩ := info_parts (show (Tryz.prog.info? 9).map (fun i => (i.zero, i.size, i.bytes)) = some (some (.string ByteArray.empty), 1, 16) by kernel_rfl)
  go_enter Tryz.func56, Tryz.ntmps56
  go_upto_region 6 with (go_at_call 108; refine (HP.out _).mono ?_; rintro e w1 ⟨fv, rfl, ho, hz⟩; obtain ⟨g, b1, b2, rfl, hg, hb1, hb2, hrow, hx1, hx2⟩ := hz (by trivial); rw [World.size_alloc] at hg hb1 hb2; have HROW := hide hrow; replace HMB := hide (HMB.out.only ho (by simp)); replace HO := hide (HO.out.trans ho); clear hg hb1 hb2 hrow hx1 hx2 ho hz m0 m1 m2 m3 m4 m5 m6 m7 m8 m9 m10 m11 m12)
  have HD := hide (show w.heap.size < w1.heap.size ∧ g < w1.heap.size from ⟨HMB.out.lt, HROW.out.lt⟩)
  have HOW := hide (show w1.ownsRow w1.heap.size 9 1 (.slice none 0 0) 0 (strc []) from ⟨rfl, .inl ⟨rfl, rfl⟩⟩)
  have HBV := hide (Nat.le_refl w1.heap.size)
  obtain ⟨B0, hB0⟩ : ∃ B0, B0 = w1.heap.size := ⟨_, rfl⟩
  have HBV := hide (show B0 ≤ w1.heap.size by omega)
  rw [← hB0] at HD HOW
  clear hB0
  obtain ⟨v0, rfl⟩ : ∃ v0, v0 = w1 := ⟨w1, rfl⟩
  refine wp_loop_rounds 4 ?_
  rw [rounds_succ]
  have a0 := HROW.out.cell 0; have a1 := HROW.out.cell 1; have a2 := HROW.out.cell 2; have a3 := HROW.out.cell 3
  simp [row4C, numC, txtC, cntC] at a0 a1 a2 a3
  go_upto_region 8 with fail
  have HF := hide (Blk.new v0 155 #[.int .i64 4, .func (.func 169) #[] #[.pointer (some ⟨b2, 0, none⟩)], .func (.func 170) #[] #[.pointer (some ⟨b2, 0, none⟩)], .nilFunc])
  replace HBV := hide (show B0 ≤ (v0.alloc (.cells #[.int .i64 4, .func (.func 169) #[] #[.pointer (some ⟨b2, 0, none⟩)], .func (.func 170) #[] #[.pointer (some ⟨b2, 0, none⟩)], .nilFunc] 155)).heap.size by have := HBV.out; simp; omega)
  replace HMB := hide (HMB.out.alloc (.cells #[.int .i64 4, .func (.func 169) #[] #[.pointer (some ⟨b2, 0, none⟩)], .func (.func 170) #[] #[.pointer (some ⟨b2, 0, none⟩)], .nilFunc] 155))
  replace HROW := hide (HROW.out.alloc (.cells #[.int .i64 4, .func (.func 169) #[] #[.pointer (some ⟨b2, 0, none⟩)], .func (.func 170) #[] #[.pointer (some ⟨b2, 0, none⟩)], .nilFunc] 155))
  replace HO := hide (HO.out.alloc (.cells #[.int .i64 4, .func (.func 169) #[] #[.pointer (some ⟨b2, 0, none⟩)], .func (.func 170) #[] #[.pointer (some ⟨b2, 0, none⟩)], .nilFunc] 155))
  replace HOW := hide (World.ownsRow.alloc HOW.out (.cells #[.int .i64 4, .func (.func 169) #[] #[.pointer (some ⟨b2, 0, none⟩)], .func (.func 170) #[] #[.pointer (some ⟨b2, 0, none⟩)], .nilFunc] 155))
  generalize (v0.alloc (.cells #[.int .i64 4, .func (.func 169) #[] #[.pointer (some ⟨b2, 0, none⟩)], .func (.func 170) #[] #[.pointer (some ⟨b2, 0, none⟩)], .nilFunc] 155)) = u0 at *
  have f0 := HF.out.cell 0; have f1 := HF.out.cell 1; have f2 := HF.out.cell 2; have f3 := HF.out.cell 3; simp at f0 f1 f2 f3
  have mi := HMB.out.cell 2; simp at mi
  clear a0 a1 a2 a3
  go_wp2_with fail
  obtain ⟨v1, rfl⟩ : ∃ v, v = u0 := ⟨u0, rfl⟩
  clear f0 f1 f2 f3 mi HF
  rw [rounds_succ]
  have a0 := HROW.out.cell 4; have a1 := HROW.out.cell 5; have a2 := HROW.out.cell 6; have a3 := HROW.out.cell 7
  simp [row4C, numC, txtC, cntC] at a0 a1 a2 a3
  go_upto_region 8 with fail
  have HF := hide (Blk.new v1 155 #[.int .i64 8, .func (.func 160) #[] #[], .func (.func 161) #[] #[], .nilFunc])
  replace HBV := hide (show B0 ≤ (v1.alloc (.cells #[.int .i64 8, .func (.func 160) #[] #[], .func (.func 161) #[] #[], .nilFunc] 155)).heap.size by have := HBV.out; simp; omega)
  replace HMB := hide (HMB.out.alloc (.cells #[.int .i64 8, .func (.func 160) #[] #[], .func (.func 161) #[] #[], .nilFunc] 155))
  replace HROW := hide (HROW.out.alloc (.cells #[.int .i64 8, .func (.func 160) #[] #[], .func (.func 161) #[] #[], .nilFunc] 155))
  replace HO := hide (HO.out.alloc (.cells #[.int .i64 8, .func (.func 160) #[] #[], .func (.func 161) #[] #[], .nilFunc] 155))
  replace HOW := hide (World.ownsRow.alloc HOW.out (.cells #[.int .i64 8, .func (.func 160) #[] #[], .func (.func 161) #[] #[], .nilFunc] 155))
  generalize (v1.alloc (.cells #[.int .i64 8, .func (.func 160) #[] #[], .func (.func 161) #[] #[], .nilFunc] 155)) = u1 at *
  have f0 := HF.out.cell 0; have f1 := HF.out.cell 1; have f2 := HF.out.cell 2; have f3 := HF.out.cell 3; simp at f0 f1 f2 f3
  have mi := HMB.out.cell 3; simp at mi
  clear a0 a1 a2 a3
  go_wp2_with fail
  obtain ⟨v2, rfl⟩ : ∃ v, v = u1 := ⟨u1, rfl⟩
  clear f0 f1 f2 f3 mi HF
  rw [rounds_succ]
  have a0 := HROW.out.cell 8; have a1 := HROW.out.cell 9; have a2 := HROW.out.cell 10; have a3 := HROW.out.cell 11
  simp [row4C, numC, txtC, cntC] at a0 a1 a2 a3
  go_upto_region 8 with fail
  have HF := hide (Blk.new v2 155 #[.int .i64 0, .nilFunc, .nilFunc, .func (.func 162) #[] #[]])
  replace HBV := hide (show B0 ≤ (v2.alloc (.cells #[.int .i64 0, .nilFunc, .nilFunc, .func (.func 162) #[] #[]] 155)).heap.size by have := HBV.out; simp; omega)
  replace HMB := hide (HMB.out.alloc (.cells #[.int .i64 0, .nilFunc, .nilFunc, .func (.func 162) #[] #[]] 155))
  replace HROW := hide (HROW.out.alloc (.cells #[.int .i64 0, .nilFunc, .nilFunc, .func (.func 162) #[] #[]] 155))
  replace HO := hide (HO.out.alloc (.cells #[.int .i64 0, .nilFunc, .nilFunc, .func (.func 162) #[] #[]] 155))
  replace HOW := hide (World.ownsRow.alloc HOW.out (.cells #[.int .i64 0, .nilFunc, .nilFunc, .func (.func 162) #[] #[]] 155))
  generalize (v2.alloc (.cells #[.int .i64 0, .nilFunc, .nilFunc, .func (.func 162) #[] #[]] 155)) = u2 at *
  have f0 := HF.out.cell 0; have f1 := HF.out.cell 1; have f2 := HF.out.cell 2; have f3 := HF.out.cell 3; simp at f0 f1 f2 f3
  have mi := HMB.out.cell 10; simp at mi
  clear a0 a1 a2 a3
  have HRN := hide (reads_one u2 9 (.string x10) (u2.heap.size + 1) (Nat.lt_succ_self _))
  replace HMB := hide (HMB.out.alloc (.cells #[.string x10] 9))
  replace HROW := hide (HROW.out.alloc (.cells #[.string x10] 9))
  replace HO := hide (HO.out.alloc (.cells #[.string x10] 9))
  replace HOW := hide (World.ownsRow.alloc HOW.out (.cells #[.string x10] 9))
  replace HBV := hide (show B0 ≤ (u2.alloc (.cells #[.string x10] 9)).heap.size by have := HBV.out; simp; omega)
  go_wp2_with (first | (go_at_call 162; refine (place10 _ _).mono ?_; rintro e w4 ⟨rfl, rfl⟩) | (at_builtin; refine wpList_append_any _ rfl (.tmp 24) (.tmp 30) 75 rfl B0 9 is (.string ByteArray.empty) 1 16 Tryz.underlying75 his hs0 hs1 hs2 rfl (by decide) _ 0 _ rfl HOW.out _ _ 1 1 [.string x10] rfl HRN.out (by simp [Value.oneCell']) (by unfold maxLen; omega) (by omega) HBV.out ?_; intro vv v3 hown1 hg1 _; have hbel := below_row hg1 (fun jj hjj => own_block_ge HOW.out hjj) HBV.out; replace HOW := hide (show v3.ownsRow B0 9 1 vv 1 (strc [x10]) from hown1); replace HMB := hide (HMB.out.below hbel (by have := HD.out; omega)); replace HROW := hide (HROW.out.below hbel (by have := HD.out; omega)); replace HO := hide (only_below HO.out hbel (by have := HD.out; omega)); replace HBV := hide (Nat.le_trans HBV.out hbel.size); clear hown1 hg1 hbel))
  clear f0 f1 f2 f3 mi HF HRN
  rw [rounds_succ]
  obtain ⟨Az, cz, rfl, _, _⟩ := own_form HOW.out
  go_wp2_with fail
  go_ret
  exact terms_yes HV.out rfl HO.out HOW.out
end
section
open Go.RowKit Go.Deep

theorem right_none {m : Mg} (h : ¬ (1 ≤ m.k ∧ m.k ≤ 4)) : rightM m = false := by unfold rightM; rw [decide_eq_false h]; rfl
set_option maxRecDepth 100000 in
set_option maxHeartbeats 3200000 in
theorem proper_none (w : World) (m : Mg) (h : ¬ (1 ≤ m.k ∧ m.k ≤ 4)) : Calls Tryz.prog 108 #[.agg m.cells] w fun e w' => e = .returned (.tuple #[.slice none 0 0, .bool false]) ∧ Only [] w w' := by
  have HMB := hide (Blk.new w 25 m.cells)
  have HO := hide ((Only.refl [] w).alloc (.cells m.cells 25))
  have a1 : (m.k == 1) = false := by rw [beq_eq_false_iff_ne]; omega
  have a2 : (m.k == 2) = false := by rw [beq_eq_false_iff_ne]; omega
  have a3 : (m.k == 3) = false := by rw [beq_eq_false_iff_ne]; omega
  have a4 : (m.k == 4) = false := by rw [beq_eq_false_iff_ne]; omega
  have HRW := hide (fun W => row_none m.k a1 a2 a3 a4 W)
  obtain ⟨k, s, r, c, x4, x5, x6, x7, x8, x9, x10, x11, x12⟩ := m
  unfold Mg.cells at HMB HO ⊢
  simp only at HMB HO HRW ⊢
  have m0 := HMB.out.cell 0
  simp at m0
  clear h a1 a2 a3 a4
  go_enter Tryz.func108, Tryz.ntmps108
  go_wp2_with (go_at_call 132; refine (HRW.out _).mono ?_; rintro e w1 ⟨rfl, ho⟩; replace HO := hide (HO.out.trans ho); clear ho)
  go_ret2
  exact ⟨rfl, HO.out⟩
set_option maxRecDepth 100000 in
set_option maxHeartbeats 3200000 in
theorem Terms_none (w : World) (m : Mg) (h : ¬ (1 ≤ m.k ∧ m.k ≤ 4)) : Calls Tryz.prog 56 #[.agg m.cells] w (TermsPost m w) := by
  have HMB := hide (Blk.new w 25 m.cells)
  have HO := hide ((Only.refl [] w).alloc (.cells m.cells 25))
  have HP := hide (fun W => proper_none W m h)
  have HV := hide (right_none h)
  obtain ⟨k, s, r, c, x4, x5, x6, x7, x8, x9, x10, x11, x12⟩ := m
  unfold Mg.cells at HMB HO HP ⊢
  simp only at HMB HO HP ⊢
  have m0 := HMB.out.cell 0; have m1 := HMB.out.cell 1; have m2 := HMB.out.cell 2; have m3 := HMB.out.cell 3; have m4 := HMB.out.cell 4; have m5 := HMB.out.cell 5; have m6 := HMB.out.cell 6; have m7 := HMB.out.cell 7; have m8 := HMB.out.cell 8; have m9 := HMB.out.cell 9; have m10 := HMB.out.cell 10; have m11 := HMB.out.cell 11; have m12 := HMB.out.cell 12; simp at m0 m1 m2 m3 m4 m5 m6 m7 m8 m9 m10 m11 m12
  clear h
  go_enter Tryz.func56, Tryz.ntmps56
  go_wp2_with (go_at_call 108; refine (HP.out _).mono ?_; rintro e w1 ⟨rfl, ho⟩; replace HO := hide (HO.out.trans ho); clear ho)
  go_ret
  exact terms_no HV.out HO.out
theorem kinds (k : Int) : k = 1 ∨ k = 2 ∨ k = 3 ∨ k = 4 ∨ ¬ (1 ≤ k ∧ k ≤ 4) := by omega
theorem Terms_any (w : World) (m : Mg) (hF : m.Fine) : Calls Tryz.prog 56 #[.agg m.cells] w (TermsPost m w) := by
  obtain ⟨k, s, r, c, x4, x5, x6, x7, x8, x9, x10, x11, x12⟩ := m
  rcases kinds k with rfl | rfl | rfl | rfl | h
  · exact Terms_1 w s r c x4 x5 x6 x7 x8 x9 x10 x11 x12 hF
  · exact Terms_2 w s r c x4 x5 x6 x7 x8 x9 x10 x11 x12 hF
  · exact Terms_3 w s r c x4 x5 x6 x7 x8 x9 x10 x11 x12 hF
  · exact Terms_4 w s r c x4 x5 x6 x7 x8 x9 x10 x11 x12 hF
  · exact Terms_none w _ h
end
section
open Go.RowKit Go.Deep

def TermsRPost (m : Mg) (w : World) (e : Ending) (w' : World) : Prop := ∃ g, e = .returned (.slice (some ⟨g, 0, none⟩) (textsM m).length (textsM m).length) ∧ w.heap.size ≤ g ∧ Blk w' g 9 (strc (textsM m)).toArray ∧ Only [] w w'
set_option maxRecDepth 100000 in
set_option maxHeartbeats 12800000 in
theorem TermsR_1 (w : World) (s r c : Nat) (x4 x5 x6 x7 x8 x9 x10 x11 x12 : ByteArray) : Calls Tryz.prog 106 #[.agg #[.int .i64 1, .int .u32 (s : Nat), .int .u32 (r : Nat), .int .u64 (c : Nat), .string x4, .string x5, .string x6, .string x7, .string x8, .string x9, .string x10, .string x11, .string x12]] w (TermsRPost (Mg.mk 1 s r c x4 x5 x6 x7 x8 x9 x10 x11 x12) w) := by
  have HMB := hide (Blk.new w 25 #[.int .i64 1, .int .u32 (s : Nat), .int .u32 (r : Nat), .int .u64 (c : Nat), .string x4, .string x5, .string x6, .string x7, .string x8, .string x9, .string x10, .string x11, .string x12])
  have HO := hide ((Only.refl [] w).alloc (.cells #[.int .i64 1, .int .u32 (s : Nat), .int .u32 (r : Nat), .int .u64 (c : Nat), .string x4, .string x5, .string x6, .string x7, .string x8, .string x9, .string x10, .string x11, .string x12] 25))
  have m0 := HMB.out.cell 0; have m1 := HMB.out.cell 1; have m2 := HMB.out.cell 2; have m3 := HMB.out.cell 3; have m4 := HMB.out.cell 4; have m5 := HMB.out.cell 5; have m6 := HMB.out.cell 6; have m7 := HMB.out.cell 7; have m8 := HMB.out.cell 8; have m9 := HMB.out.cell 9; have m10 := HMB.out.cell 10; have m11 := HMB.out.cell 11; have m12 := HMB.out.cell 12; simp at m0 m1 m2 m3 m4 m5 m6 m7 m8 m9 m10 m11 m12
  go_enter Tryz.func106, Tryz.ntmps106
  go_wp2_with fail
  go_ret
  refine ⟨w.heap.size + 1, rfl, by omega, ?_, HO.out.alloc _⟩
  exact blk_new' (by simp)

set_option maxRecDepth 100000 in
set_option maxHeartbeats 12800000 in
theorem TermsR_2 (w : World) (s r c : Nat) (x4 x5 x6 x7 x8 x9 x10 x11 x12 : ByteArray) : Calls Tryz.prog 106 #[.agg #[.int .i64 2, .int .u32 (s : Nat), .int .u32 (r : Nat), .int .u64 (c : Nat), .string x4, .string x5, .string x6, .string x7, .string x8, .string x9, .string x10, .string x11, .string x12]] w (TermsRPost (Mg.mk 2 s r c x4 x5 x6 x7 x8 x9 x10 x11 x12) w) := by
  have HMB := hide (Blk.new w 25 #[.int .i64 2, .int .u32 (s : Nat), .int .u32 (r : Nat), .int .u64 (c : Nat), .string x4, .string x5, .string x6, .string x7, .string x8, .string x9, .string x10, .string x11, .string x12])
  have HO := hide ((Only.refl [] w).alloc (.cells #[.int .i64 2, .int .u32 (s : Nat), .int .u32 (r : Nat), .int .u64 (c : Nat), .string x4, .string x5, .string x6, .string x7, .string x8, .string x9, .string x10, .string x11, .string x12] 25))
  have m0 := HMB.out.cell 0; have m1 := HMB.out.cell 1; have m2 := HMB.out.cell 2; have m3 := HMB.out.cell 3; have m4 := HMB.out.cell 4; have m5 := HMB.out.cell 5; have m6 := HMB.out.cell 6; have m7 := HMB.out.cell 7; have m8 := HMB.out.cell 8; have m9 := HMB.out.cell 9; have m10 := HMB.out.cell 10; have m11 := HMB.out.cell 11; have m12 := HMB.out.cell 12; simp at m0 m1 m2 m3 m4 m5 m6 m7 m8 m9 m10 m11 m12
  go_enter Tryz.func106, Tryz.ntmps106
  go_wp2_with fail
  go_ret
  refine ⟨w.heap.size + 1, rfl, by omega, ?_, HO.out.alloc _⟩
  exact blk_new' (by simp)

set_option maxRecDepth 100000 in
set_option maxHeartbeats 12800000 in
theorem TermsR_3 (w : World) (s r c : Nat) (x4 x5 x6 x7 x8 x9 x10 x11 x12 : ByteArray) : Calls Tryz.prog 106 #[.agg #[.int .i64 3, .int .u32 (s : Nat), .int .u32 (r : Nat), .int .u64 (c : Nat), .string x4, .string x5, .string x6, .string x7, .string x8, .string x9, .string x10, .string x11, .string x12]] w (TermsRPost (Mg.mk 3 s r c x4 x5 x6 x7 x8 x9 x10 x11 x12) w) := by
  have HMB := hide (Blk.new w 25 #[.int .i64 3, .int .u32 (s : Nat), .int .u32 (r : Nat), .int .u64 (c : Nat), .string x4, .string x5, .string x6, .string x7, .string x8, .string x9, .string x10, .string x11, .string x12])
  have HO := hide ((Only.refl [] w).alloc (.cells #[.int .i64 3, .int .u32 (s : Nat), .int .u32 (r : Nat), .int .u64 (c : Nat), .string x4, .string x5, .string x6, .string x7, .string x8, .string x9, .string x10, .string x11, .string x12] 25))
  have m0 := HMB.out.cell 0; have m1 := HMB.out.cell 1; have m2 := HMB.out.cell 2; have m3 := HMB.out.cell 3; have m4 := HMB.out.cell 4; have m5 := HMB.out.cell 5; have m6 := HMB.out.cell 6; have m7 := HMB.out.cell 7; have m8 := HMB.out.cell 8; have m9 := HMB.out.cell 9; have m10 := HMB.out.cell 10; have m11 := HMB.out.cell 11; have m12 := HMB.out.cell 12; simp at m0 m1 m2 m3 m4 m5 m6 m7 m8 m9 m10 m11 m12
  go_enter Tryz.func106, Tryz.ntmps106
  go_wp2_with fail
  go_ret
  refine ⟨w.heap.size + 1, rfl, by omega, ?_, HO.out.alloc _⟩
  exact blk_new' (by simp)

set_option maxRecDepth 100000 in
set_option maxHeartbeats 12800000 in
theorem TermsR_4 (w : World) (s r c : Nat) (x4 x5 x6 x7 x8 x9 x10 x11 x12 : ByteArray) : Calls Tryz.prog 106 #[.agg #[.int .i64 4, .int .u32 (s : Nat), .int .u32 (r : Nat), .int .u64 (c : Nat), .string x4, .string x5, .string x6, .string x7, .string x8, .string x9, .string x10, .string x11, .string x12]] w (TermsRPost (Mg.mk 4 s r c x4 x5 x6 x7 x8 x9 x10 x11 x12) w) := by
  have HMB := hide (Blk.new w 25 #[.int .i64 4, .int .u32 (s : Nat), .int .u32 (r : Nat), .int .u64 (c : Nat), .string x4, .string x5, .string x6, .string x7, .string x8, .string x9, .string x10, .string x11, .string x12])
  have HO := hide ((Only.refl [] w).alloc (.cells #[.int .i64 4, .int .u32 (s : Nat), .int .u32 (r : Nat), .int .u64 (c : Nat), .string x4, .string x5, .string x6, .string x7, .string x8, .string x9, .string x10, .string x11, .string x12] 25))
  have m0 := HMB.out.cell 0; have m1 := HMB.out.cell 1; have m2 := HMB.out.cell 2; have m3 := HMB.out.cell 3; have m4 := HMB.out.cell 4; have m5 := HMB.out.cell 5; have m6 := HMB.out.cell 6; have m7 := HMB.out.cell 7; have m8 := HMB.out.cell 8; have m9 := HMB.out.cell 9; have m10 := HMB.out.cell 10; have m11 := HMB.out.cell 11; have m12 := HMB.out.cell 12; simp at m0 m1 m2 m3 m4 m5 m6 m7 m8 m9 m10 m11 m12
  go_enter Tryz.func106, Tryz.ntmps106
  go_wp2_with fail
  go_ret
  refine ⟨w.heap.size + 1, rfl, by omega, ?_, HO.out.alloc _⟩
  exact blk_new' (by simp)
end
section
open Go.RowKit Go.Deep

/-- What a text is as a term: kind 0, if it is none. -/
def whatV (s : ByteArray) : Nd := (parseV s).getD (0, 0, [], [])
theorem what_kind (s : ByteArray) : kindT s = (whatV s).1 := by unfold kindT whatV; cases parseV s <;> rfl
theorem what_is (s : ByteArray) : (parseV s).isSome = decide ((whatV s).1 ≠ 0) := by
  unfold whatV
  cases h : parseV s with
  | none => rfl
  | some nd =>
    obtain ⟨k, n, b, l⟩ := nd
    have hm := (read_make h).2.1
    rw [Option.isSome_some, Option.getD_some]
    exact (decide_eq_true (by simp only; omega)).symm
/-- The reference's Read, in that word. -/
theorem readR_what (w : World) (s : ByteArray) (hs : s.size ≤ maxLen) : Calls Tryz.prog 39 #[.string s] w fun e w' => ∃ bv pv, e = .returned (.agg #[.int .i64 (whatV s).1, .int .u64 ((whatV s).2.1 : Nat), bv, pv]) ∧ Only [] w w' ∧
      Rd w' [] bv (ints .u8 (byts (whatV s).2.2.1)) ∧ Rd w' [] pv (strs (whatV s).2.2.2) :=
  (readR_all w s hs).mono fun e w' h => by
    unfold ReadRPost at h
    unfold whatV
    cases hp : parseV s with
    | none =>
      rw [hp] at h
      exact ⟨_, _, h.1, h.2, Rd.nil _ _, Rd.nil _ _⟩
    | some nd =>
      rw [hp] at h
      obtain ⟨bv, pv, h1, h2, h3, h4⟩ := h
      exact ⟨bv, pv, h1, h2, h3 [] (by simp), h4 [] (by simp)⟩
theorem make_swap (n : Nat) (b : List UInt8) (x y : ByteArray) : makeV 6 n b [x, y] = makeV 6 n b [y, x] := by
  unfold makeV
  rw [sort_two x y]
  have h : (∀ p ∈ [x, y], (parseV p).isSome = true) ↔ (∀ p ∈ [y, x], (parseV p).isSome = true) := by
    simp [and_comm]
  by_cases hc : (1 : Int) ≤ 6 ∧ (6 : Int) ≤ 11 ∧ (numberedV 6 = true → allowedV 6 n = true) ∧ fitsV 6 ([x, y].length : Nat) = true ∧ (∀ p ∈ [x, y], (parseV p).isSome = true) ∧ (txtL 6 n b (sortV 6 [y, x])).length ≤ 65536
  · rw [if_pos hc, if_pos ⟨hc.1, hc.2.1, hc.2.2.1, hc.2.2.2.1, h.1 hc.2.2.2.2.1, hc.2.2.2.2.2⟩]
  · rw [if_neg hc, if_neg (fun c => hc ⟨c.1, c.2.1, c.2.2.1, c.2.2.2.1, h.2 c.2.2.2.2.1, c.2.2.2.2.2⟩)]
end
section
open Go.RowKit Go.Deep

theorem make_size {k : Int} {n : Nat} {b : List UInt8} {l : List ByteArray} (hn : n < 18446744073709551616) (h : makeV k n b l ≠ ByteArray.empty) : (makeV k n b l).size ≤ 65536 := parse_size (make_read hn h)
end
section
open Go.RowKit Go.Deep

/-- The text of a number. -/
noncomputable def numT (n : Nat) : ByteArray := makeV 3 n [] []
theorem make_size' (k : Int) (n : Nat) (b : List UInt8) (l : List ByteArray) (hn : n < 18446744073709551616) : (makeV k n b l).size ≤ maxLen := by
  by_cases h : makeV k n b l = ByteArray.empty
  · rw [h]; exact Nat.zero_le _
  · exact Nat.le_trans (make_size hn h) (by unfold maxLen; omega)
end
section
open Go.RowKit Go.Deep

theorem txt_le (k : Int) (n : Nat) (hn : n < 18446744073709551616) (b : List UInt8) (l : List ByteArray) (h5 : 5 ≤ k) : (txtL k n b l).length ≤ sumL l + 24 := by
  have h1 := join_le l
  have h2 := dec_len n hn
  unfold txtL
  rw [if_neg (by omega), if_neg (by omega), if_neg (by omega)]
  split
  · split <;> simp only [List.length_cons, List.length_append, List.length_nil] <;> omega
  · simp only [List.length_cons, List.length_append, List.length_nil]
    omega
theorem sort_sum (k : Int) (l : List ByteArray) (h : k = 6 → l.length = 2) : sumL (sortV k l) = sumL l := by
  by_cases h6 : k = 6
  · match l, h h6 with
    | [x, y], _ =>
      unfold sortV
      split
      · show y.size + 1 + (x.size + 1 + 0) = x.size + 1 + (y.size + 1 + 0)
        omega
      · rfl
  · rw [sort_not6 h6]
theorem made_of {k : Int} {n : Nat} (b : List UInt8) {l : List ByteArray} (h5 : 5 ≤ k) (h11 : k ≤ 11) (hn : n < 18446744073709551616) (h2 : numberedV k = true → allowedV k n = true) (h3 : fitsV k l.length = true)
    (h4 : ∀ p ∈ l, (parseV p).isSome = true) (hs : sumL l ≤ 65000) : makeV k n b l = bytesOf (txtL k n b (sortV k l)) := by
  refine make_is ⟨by omega, h11⟩ h2 h3 (fun j hj => ?_) ?_
  · have h := h4 (l.getD j ByteArray.empty) (by rw [List.getD_eq_getElem?_getD, List.getElem?_eq_getElem hj]; exact List.getElem_mem hj)
    obtain ⟨nd, h1⟩ := Option.isSome_iff_exists.1 h
    have h6 := kind_pos (k := nd.1) (n := nd.2.1) (b := nd.2.2.1) (l := nd.2.2.2) h1
    unfold kindT
    rw [h1]
    show nd.1 ≠ 0
    omega
  · have h6 := txt_le k n hn b (sortV k l) h5
    rw [sort_sum k l (fun h => by subst h; obtain ⟨p, q, rfl⟩ := fits_six h3; rfl)] at h6
    omega
/-- A term of at most so many bytes. -/
def Tn (N : Nat) (s : ByteArray) : Prop := (parseV s).isSome = true ∧ s.size ≤ N
theorem Tn.mono {M N : Nat} {s : ByteArray} (h : Tn M s) (hn : M ≤ N) : Tn N s := ⟨h.1, Nat.le_trans h.2 hn⟩
theorem Tn.ne {N : Nat} {s : ByteArray} (h : Tn N s) : s ≠ ByteArray.empty := by
  rintro rfl
  have h1 := h.1
  rw [show parseV ByteArray.empty = none from by kernel_rfl] at h1
  cases h1
theorem tn_make {k : Int} {n : Nat} {b : List UInt8} {l : List ByteArray} (h5 : 5 ≤ k) (h11 : k ≤ 11) (hn : n < 18446744073709551616) (h2 : numberedV k = true → allowedV k n = true) (h3 : fitsV k l.length = true)
    (h4 : ∀ p ∈ l, (parseV p).isSome = true) (N : Nat) (hs : sumL l + 24 ≤ N) (hN : N ≤ 65000) : Tn N (makeV k n b l) := by
  have he := made_of b h5 h11 hn h2 h3 h4 (by omega)
  have hne : makeV k n b l ≠ ByteArray.empty := by rw [he]; exact bytes_ne (txt_ne _ _ _ _)
  refine ⟨by rw [make_read hn hne]; rfl, ?_⟩
  rw [he, bytesOf_size]
  have h6 := txt_le k n hn b (sortV k l) h5
  rw [sort_sum k l (fun h => by subst h; obtain ⟨p, q, rfl⟩ := fits_six h3; rfl)] at h6
  omega
section
variable {a c d : Nat} {x y z : ByteArray}
theorem tn_pub (hx : Tn a x) (h : a ≤ 60000) : Tn (a + 25) (makeV 5 0 [] [x]) :=
  tn_make (by omega) (by omega) (by omega) (fun h => by cases h) (by show fitsV 5 1 = true; decide) (by intro p hp; simp at hp; subst hp; exact hx.1) _ (by have := hx.2; show x.size + 1 + 0 + 24 ≤ a + 25; omega) (by omega)
theorem tn_two (k : Int) (hk : k = 6 ∨ k = 7 ∨ k = 9) (hx : Tn a x) (hy : Tn c y) (h : a + c ≤ 60000) : Tn (a + c + 26) (makeV k 0 [] [x, y]) :=
  tn_make (by omega) (by omega) (by omega) (fun h => by rcases hk with rfl | rfl | rfl <;> cases h) (by rcases hk with rfl | rfl | rfl <;> (show fitsV _ 2 = true; decide)) (by intro p hp; simp at hp; rcases hp with rfl | rfl; exact hx.1; exact hy.1) _ (by have := hx.2; have := hy.2; show x.size + 1 + (y.size + 1 + 0) + 24 ≤ a + c + 26; omega) (by omega)
theorem tn_kdf (n : Nat) (hn : 1 ≤ n ∧ n ≤ 3) (hx : Tn a x) (hy : Tn c y) (h : a + c ≤ 60000) : Tn (a + c + 26) (makeV 8 n [] [x, y]) :=
  tn_make (by omega) (by omega) (by omega) (fun _ => by unfold allowedV; rw [if_neg (by decide), if_pos rfl]; exact decide_eq_true (by omega)) (by show fitsV 8 2 = true; decide) (by intro p hp; simp at hp; rcases hp with rfl | rfl; exact hx.1; exact hy.1) _ (by have := hx.2; have := hy.2; show x.size + 1 + (y.size + 1 + 0) + 24 ≤ a + c + 26; omega) (by omega)
theorem tn_seal (n : Nat) (hn : n < 18446744073709551616) (hx : Tn a x) (hy : Tn c y) (hz : Tn d z) (h : a + c + d ≤ 60000) : Tn (a + c + d + 27) (makeV 10 n [] [x, y, z]) :=
  tn_make (by omega) (by omega) hn (fun _ => by unfold allowedV; rw [if_neg (by decide), if_neg (by decide)]) (by show fitsV 10 3 = true; decide) (by intro p hp; simp at hp; rcases hp with rfl | rfl | rfl; exact hx.1; exact hy.1; exact hz.1) _ (by have := hx.2; have := hy.2; have := hz.2; show x.size + 1 + (y.size + 1 + (z.size + 1 + 0)) + 24 ≤ a + c + d + 27; omega) (by omega)
theorem tn_num (n : Nat) (hn : n < 18446744073709551616) : Tn 21 (numT n) := by
  have hd := dec_len n hn
  have h1 : numT n = bytesOf (txtL 3 n [] (sortV 3 [])) := make_is (k := 3) (n := n) (b := []) (l := []) (by decide) (fun _ => rfl) (by decide) (fun j hj => by simp at hj) (by
    show (letU 3 :: (if (3 : Int) = 2 ∨ (3 : Int) = 3 then Lib.decDigits n else _)).length ≤ 65536
    rw [if_pos (Or.inr rfl), List.length_cons]
    omega)
  have hne : numT n ≠ ByteArray.empty := by rw [h1]; exact bytes_ne (txt_ne _ _ _ _)
  refine ⟨by unfold numT at hne ⊢; rw [make_read hn hne]; rfl, ?_⟩
  rw [h1, bytesOf_size]
  show (letU 3 :: (if (3 : Int) = 2 ∨ (3 : Int) = 3 then Lib.decDigits n else _)).length ≤ 21
  rw [if_pos (Or.inr rfl), List.length_cons]
  omega
end
end
end Go.Proofs.YtfipdjlalfpbnaaGreatDoor

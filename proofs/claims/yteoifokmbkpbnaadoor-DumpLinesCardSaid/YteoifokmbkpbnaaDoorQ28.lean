/-
  Walks and plain words (texts Wq1, Wqp1, Wn2). No condition beyond those that each theorem states.
-/
import Derived.StillTailTactics
import Derived.Test.YteoifokmbkpbnaaDoorQ15
namespace Go.Proofs.YteoifokmbkpbnaaDoor
section
open Go.RowKit Go.Deep

def TermsRPost (m : Mg) (w : World) (e : Ending) (w' : World) : Prop := ∃ g, e = .returned (.slice (some ⟨g, 0, none⟩) (textsM m).length (textsM m).length) ∧ w.heap.size ≤ g ∧ Blk w' g 9 (strc (textsM m)).toArray ∧ Only [] w w'
theorem blk_strs {w : World} {g : Nat} {l : List ByteArray} (h : Blk w g 9 (strc l).toArray) (N : List Nat) (hN : g ∉ N) (hl : l.length ≤ maxLen) : Rd w N (.slice (some ⟨g, 0, none⟩) l.length l.length) (strc l) :=
  ⟨_, _, by rw [strc, List.length_map], by rw [strc, List.length_map]; exact Nat.le_refl _, hl, .inr ⟨g, 0, rfl, hN, h.lt, fun i x hx => by rw [Nat.zero_add, h.cell]; simpa using hx⟩⟩

set_option maxRecDepth 100000 in
set_option maxHeartbeats 12800000 in
theorem TermsR_1 (w : World) (s r c : Nat) (x4 x5 x6 x7 x8 x9 x10 x11 x12 : ByteArray) : Calls Tryd.prog 60 #[.agg #[.int .i64 1, .int .u32 (s : Nat), .int .u32 (r : Nat), .int .u64 (c : Nat), .string x4, .string x5, .string x6, .string x7, .string x8, .string x9, .string x10, .string x11, .string x12]] w (TermsRPost (Mg.mk 1 s r c x4 x5 x6 x7 x8 x9 x10 x11 x12) w) := by
  have HMB := hide (Blk.new w 78 #[.int .i64 1, .int .u32 (s : Nat), .int .u32 (r : Nat), .int .u64 (c : Nat), .string x4, .string x5, .string x6, .string x7, .string x8, .string x9, .string x10, .string x11, .string x12])
  have HO := hide ((Only.refl [] w).alloc (.cells #[.int .i64 1, .int .u32 (s : Nat), .int .u32 (r : Nat), .int .u64 (c : Nat), .string x4, .string x5, .string x6, .string x7, .string x8, .string x9, .string x10, .string x11, .string x12] 78))
  have m0 := HMB.out.cell 0; have m1 := HMB.out.cell 1; have m2 := HMB.out.cell 2; have m3 := HMB.out.cell 3; have m4 := HMB.out.cell 4; have m5 := HMB.out.cell 5; have m6 := HMB.out.cell 6; have m7 := HMB.out.cell 7; have m8 := HMB.out.cell 8; have m9 := HMB.out.cell 9; have m10 := HMB.out.cell 10; have m11 := HMB.out.cell 11; have m12 := HMB.out.cell 12; simp at m0 m1 m2 m3 m4 m5 m6 m7 m8 m9 m10 m11 m12
  go_enter Tryd.func60, Tryd.ntmps60
  go_wp2_with fail
  go_ret
  refine ⟨w.heap.size + 1, rfl, by omega, ?_, HO.out.alloc _⟩
  exact blk_new' (by simp)

set_option maxRecDepth 100000 in
set_option maxHeartbeats 12800000 in
theorem numberR_any (w : World) (u n : Nat) (hn : n ≤ 8) (hu : u < 18446744073709551616) : Calls Tryd.prog 59 #[.int .u64 u, .int .i64 n] w fun e w' => ∃ v, e = .returned v ∧ Rd w' [] v (ints .u8 (byts (lowB n u))) ∧ Only [] w w' := by
  obtain ⟨i0, hi, hz0, hz1, hz2⟩ := info_parts (show (Tryd.prog.info? 5).map (fun i => (i.zero, i.size, i.bytes)) = some (some (.int .u8 0), 1, 1) by kernel_rfl)
  have HOW := hide (own_empty w 5 w.heap.size (Nat.le_refl _))
  have HO := hide ((Only.refl [] w).alloc (.cells #[] 5))
  go_enter Tryd.func59, Tryd.ntmps59
  go_wp2_with fail
  go_loopw [0, 5, 6] (fun uv v i wr => ∃ (j x : Nat), j ≤ n ∧ x < 18446744073709551616 ∧ uv = .int .u64 x ∧ i = .int .i64 j ∧ x = u / 256 ^ j ∧ Hid (wr.ownsRow w.heap.size 5 1 v j (ints .u8 (byts (lowB j u)))) ∧ Hid (Only [] w wr)) (fun _ _ i _ => n - (intOf i).toNat)
  case atStart => exact ⟨0, u, Nat.zero_le _, hu, rfl, rfl, by simp, HOW, HO⟩
  case round =>
    clear HOW HO
    obtain ⟨j, x, hj, hx, rfl, rfl, hxu, HOW, HO⟩ := hrel
    obtain ⟨A, c, rfl, _, _⟩ := own_form HOW.out
    by_cases hlt : j < n
    · have hltI : (j : Int) < n := by omega
      have HZ := hide (show ((UInt8.ofNat (u / 256 ^ j % 256)).toNat : Int) = (x : Int) % 256 by rw [← hxu, UInt8.toNat_ofNat', Nat.mod_eq_of_lt (by omega : x % 256 < 2 ^ 8)]; omega)
      have HSN := hide (lowB_snoc j u)
      have HXS := hide (show x / 256 = u / 256 ^ (j + 1) by rw [hxu, Nat.div_div_eq_div_mul, Nat.pow_succ])
      generalize UInt8.ofNat (u / 256 ^ j % 256) = z at *
      have hq8 : IntKind.u8.wrap ((x : Int) % 256) = (x : Int) % 256 := by rw [IntKind.wrap_u8]; omega
      have ht1 : ((x : Int).tmod 256) = (x : Int) % 256 := by rw [Int.tmod_eq_emod_of_nonneg (by omega)]
      have ht2 : ((x : Int).tdiv 256) = ((x / 256 : Nat) : Int) := by rw [Int.tdiv_eq_ediv_of_nonneg (by omega)]; omega
      have HRN := hide (reads_one wr 5 (.int .u8 ((x : Int) % 256)) (wr.heap.size + 1) (Nat.lt_succ_self _))
      have HOW2 := hide (World.ownsRow.alloc HOW.out (.cells #[.int .u8 ((x : Int) % 256)] 5))
      have HO2 := hide (HO.out.alloc (.cells #[.int .u8 ((x : Int) % 256)] 5))
      have HSZ := hide HO.out.size
      clear hxu
      go_wp2_with (at_builtin; refine wpList_append_any _ rfl (.tmp 13) (.tmp 17) 23 rfl w.heap.size 5 i0 (.int .u8 0) 1 1 Tryd.underlying23 hi hz0 hz1 hz2 rfl (by decide) _ j _ rfl HOW2.out _ _ 1 1 [.int .u8 ((x : Int) % 256)] rfl HRN.out (by simp [Value.oneCell']) (by unfold maxLen; omega) (by omega) (by have := HSZ.out; simp; omega) ?_; intro v1 w3 hown1 hg1 _; have HOW3 := hide hown1; have HO3 := hide (HO2.out.grown hg1 (fun jj hjj => .inr (own_block_ge HOW2.out hjj))); clear hown1 hg1)
      go_roundw
      case rel => exact ⟨j + 1, x / 256, by omega, by omega, by go_num, by go_num, HXS.out, hide (by rw [HSN.out, byts_append, ints_append, show ints .u8 (byts [z]) = [.int .u8 ((x : Int) % 256)] from (by rw [← HZ.out]; rfl)]; exact HOW3.out), HO3⟩
      case measure => simp [intOf]; omega
    · have hge : ¬ (j : Int) < n := by omega
      obtain rfl : j = n := by omega
      have HRD := hide (Rd.of_own (N := []) HOW.out (by simp)).1
      go_wp2_with fail
      go_ret
      exact ⟨_, rfl, HRD.out, HO.out⟩
end
section
open Go.RowKit Go.Deep

set_option maxRecDepth 100000 in
set_option maxHeartbeats 12800000 in
theorem PrintR_1 (w : World) (s r c : Nat) (x4 x5 x6 x7 x8 x9 x10 x11 x12 : ByteArray) (hF : (Mg.mk 1 s r c x4 x5 x6 x7 x8 x9 x10 x11 x12).Fine) (hB : rightM (Mg.mk 1 s r c x4 x5 x6 x7 x8 x9 x10 x11 x12) = true) :
    Calls Tryd.prog 40 #[.agg #[.int .i64 1, .int .u32 (s : Nat), .int .u32 (r : Nat), .int .u64 (c : Nat), .string x4, .string x5, .string x6, .string x7, .string x8, .string x9, .string x10, .string x11, .string x12]] w fun e w' => ∃ v, e = .returned v ∧ Rd w' [] v (ints .u8 (byts (printM (Mg.mk 1 s r c x4 x5 x6 x7 x8 x9 x10 x11 x12)))) ∧ Only [] w w' := by
  obtain ⟨hs, hr, hc, hx4, hx5, hx6, hx7, hx8, hx9, hx10, hx11, hx12⟩ := hF
  simp only at hs hr hc hx4 hx5 hx6 hx7 hx8 hx9 hx10 hx11 hx12
  have hz4 : x4.size ≤ 65535 := fit_size (by have h := hB; simp [rightM, textsM] at h; simp [h])
  have hz5 : x5.size ≤ 65535 := fit_size (by have h := hB; simp [rightM, textsM] at h; simp [h])
  have hz6 : x6.size ≤ 65535 := fit_size (by have h := hB; simp [rightM, textsM] at h; simp [h])
  have hz11 : x11.size ≤ 65535 := fit_size (by have h := hB; simp [rightM, textsM] at h; simp [h])
  have hz12 : x12.size ≤ 65535 := fit_size (by have h := hB; simp [rightM, textsM] at h; simp [h])
  obtain ⟨i0, hi, hz0, hz1, hz2⟩ := info_parts (show (Tryd.prog.info? 5).map (fun i => (i.zero, i.size, i.bytes)) = some (some (.int .u8 0), 1, 1) by kernel_rfl)
  have HTR := hide (fun W => TermsR_1 W s r c x4 x5 x6 x7 x8 x9 x10 x11 x12)
  unfold TermsRPost at HTR
  rw [show (textsM (Mg.mk 1 s r c x4 x5 x6 x7 x8 x9 x10 x11 x12)).length = 5 from rfl] at HTR
  have HOW := hide (show ((w.alloc (.cells #[.int .i64 1, .int .u32 (s : Nat), .int .u32 (r : Nat), .int .u64 (c : Nat), .string x4, .string x5, .string x6, .string x7, .string x8, .string x9, .string x10, .string x11, .string x12] 78)).alloc (.cells #[.int .u8 1, .int .u8 0, .int .u8 0, .int .u8 0] 5)).ownsRow (w.heap.size + 1) 5 1 (.slice (some ⟨w.heap.size + 1, 0, none⟩) 4 4) 4 (ints .u8 (byts [1, 0, 0, 0])) by
    have h := World.ownsRow_lit (base := w.heap.size + 1) (e := 5) (size := 1) (w.alloc (.cells #[.int .i64 1, .int .u32 (s : Nat), .int .u32 (r : Nat), .int .u64 (c : Nat), .string x4, .string x5, .string x6, .string x7, .string x8, .string x9, .string x10, .string x11, .string x12] 78)) #[.int .u8 1, .int .u8 0, .int .u8 0, .int .u8 0] 4 (by simp) (by unfold maxLen; omega) rfl
    rw [World.size_alloc] at h
    exact h)
  have HMB := hide ((Blk.new w 78 #[.int .i64 1, .int .u32 (s : Nat), .int .u32 (r : Nat), .int .u64 (c : Nat), .string x4, .string x5, .string x6, .string x7, .string x8, .string x9, .string x10, .string x11, .string x12]).alloc (.cells #[.int .u8 1, .int .u8 0, .int .u8 0, .int .u8 0] 5))
  have HO := hide (((Only.refl [] w).alloc (.cells #[.int .i64 1, .int .u32 (s : Nat), .int .u32 (r : Nat), .int .u64 (c : Nat), .string x4, .string x5, .string x6, .string x7, .string x8, .string x9, .string x10, .string x11, .string x12] 78)).alloc (.cells #[.int .u8 1, .int .u8 0, .int .u8 0, .int .u8 0] 5))
  clear hB
  go_enter Tryd.func40, Tryd.ntmps40
  go_upto_region 2 with fail
  generalize ((w.alloc (.cells #[.int .i64 1, .int .u32 (s : Nat), .int .u32 (r : Nat), .int .u64 (c : Nat), .string x4, .string x5, .string x6, .string x7, .string x8, .string x9, .string x10, .string x11, .string x12] 78)).alloc (.cells #[.int .u8 1, .int .u8 0, .int .u8 0, .int .u8 0] 5)) = v0 at *
  have HBS := hide (show w.heap.size + 1 ≤ v0.heap.size by have := HMB.out.lt; omega)
  have m0 := HMB.out.cell 0; have m1 := HMB.out.cell 1; have m2 := HMB.out.cell 2; have m3 := HMB.out.cell 3; simp at m0 m1 m2 m3
  go_upto_region 4 with (first | (go_at_call 59; refine (numberR_any _ s 4 (by omega) (by omega)).mono ?_; rintro e ua ⟨va, rfl, hrd, ho⟩; obtain ⟨An, cn, hva, _, _⟩ := hrd.formb; rw [lowB_length] at hva; subst hva; have HRA := hide hrd.reads; replace HOW := hide (own_only HOW.out ho (by simp)); replace HMB := hide (HMB.out.only ho (by simp)); clear m0 m1 m2 m3; replace HO := hide (HO.out.trans ho); replace HBS := hide (Nat.le_trans HBS.out ho.size); clear ho hrd) | (at_builtin; refine wpList_append_any _ rfl (.tmp 13) (.tmp 17) 23 rfl (w.heap.size + 1) 5 i0 (.int .u8 0) 1 1 Tryd.underlying23 hi hz0 hz1 hz2 rfl (by decide) _ (4) _ rfl HOW.out ua.heap.size An 4 cn (ints .u8 (byts (lowB 4 s))) rfl HRA.out (ints_one _ _) (by unfold maxLen; omega) (by omega) HBS.out ?_; intro vv v1 hown1 hg1 _; have hbel := below_row hg1 (fun jj hjj => own_block_ge HOW.out hjj) HBS.out; rw [← ints_append, ← byts_append] at hown1; replace HOW := hide hown1; replace HMB := hide (HMB.out.below hbel (by omega)); replace HO := hide (only_below HO.out hbel (by omega)); replace HBS := hide (Nat.le_trans HBS.out hbel.size); clear hown1 hg1 hbel HRA))
  obtain ⟨A1, c1, rfl, _, _⟩ := own_form HOW.out
  have m0 := HMB.out.cell 0; have m1 := HMB.out.cell 1; have m2 := HMB.out.cell 2; have m3 := HMB.out.cell 3
  simp at m0 m1 m2 m3
  have m4 := HMB.out.cell 4; have m5 := HMB.out.cell 5; have m6 := HMB.out.cell 6; have m7 := HMB.out.cell 7; have m8 := HMB.out.cell 8; have m9 := HMB.out.cell 9; have m10 := HMB.out.cell 10; have m11 := HMB.out.cell 11; have m12 := HMB.out.cell 12
  simp at m4 m5 m6 m7 m8 m9 m10 m11 m12
  go_upto_region 10 with (go_at_call 60; refine (HTR.out _).mono ?_; rintro e vt ⟨g, rfl, hg, hb, ho⟩; have HTB := hide (show Blk vt g 9 #[.string x4, .string x5, .string x6, .string x11, .string x12] from hb); replace HOW := hide (own_only HOW.out ho (by simp)); replace HO := hide (HO.out.trans ho); replace HBS := hide (Nat.le_trans HBS.out ho.size); have HRW := hide (show Rd vt [] (.slice (some ⟨g, 0, none⟩) 5 5) (strc [x4, x5, x6, x11, x12]) from blk_strs hb [] (by simp) (by unfold maxLen; show 5 ≤ _; omega)); have HGB := hide hg; clear hg hb ho m0 m1 m2 m3 m4 m5 m6 m7 m8 m9 m10 m11 m12)
  refine wp_loop_rounds 6 ?_
  rw [rounds_succ]
  have cj := HTB.out.cell 0; simp at cj
  have hwj : IntKind.u64.wrap (x4.size : Int) = x4.size := by rw [IntKind.wrap_u64]; omega
  go_upto_region 13 with (first | (go_at_call 59; refine (numberR_any _ x4.size 2 (by omega) (by omega)).mono ?_; rintro e ua ⟨va, rfl, hrd, ho⟩; obtain ⟨An, cn, hva, _, _⟩ := hrd.formb; rw [lowB_length] at hva; subst hva; have HRA := hide hrd.reads; replace HOW := hide (own_only HOW.out ho (by simp)); replace HTB := hide (HTB.out.only ho (by simp)); replace HO := hide (HO.out.trans ho); replace HBS := hide (Nat.le_trans HBS.out ho.size); clear ho hrd) | (at_builtin; refine wpList_append_any _ rfl (.tmp 44) (.tmp 51) 23 rfl (w.heap.size + 1) 5 i0 (.int .u8 0) 1 1 Tryd.underlying23 hi hz0 hz1 hz2 rfl (by decide) _ (4 + 4) _ rfl HOW.out ua.heap.size An 2 cn (ints .u8 (byts (lowB 2 x4.size))) rfl HRA.out (ints_one _ _) (by unfold maxLen; omega) (by omega) HBS.out ?_; intro vv wa0 hown1 hg1 _; have hbel := below_row hg1 (fun jj hjj => own_block_ge HOW.out hjj) HBS.out; rw [← ints_append, ← byts_append] at hown1; have HOW0 := HOW; replace HOW := hide hown1; replace HTB := hide (HTB.out.grown hg1 (own_ne HOW0.out HTB.out (by decide))); replace HO := hide (only_below HO.out hbel (by omega)); replace HBS := hide (Nat.le_trans HBS.out hbel.size); clear hown1 hg1 hbel HRA))
  obtain ⟨B0, d0, rfl, _, _⟩ := own_form HOW.out
  clear cj
  have cj := HTB.out.cell 0; simp at cj
  go_wp2_with (at_builtin; refine Lib.wpList_append_own_string _ rfl _ _ 23 9 rfl (w.heap.size + 1) 5 i0 Tryd.underlying23 Tryd.underlying9 hi hz0 hz1 hz2 _ (4 + 4 + 2) _ rfl HOW.out x4 rfl (by unfold maxLen; omega) (by omega) HBS.out ?_; intro vv wb0 hown1 hg1 _; have hbel := below_row hg1 (fun jj hjj => own_block_ge HOW.out hjj) HBS.out; rw [str_cells, ← ints_append, ← byts_append] at hown1; have HOW0 := HOW; replace HOW := hide hown1; replace HTB := hide (HTB.out.grown hg1 (own_ne HOW0.out HTB.out (by decide))); replace HO := hide (only_below HO.out hbel (by omega)); replace HBS := hide (Nat.le_trans HBS.out hbel.size); clear hown1 hg1 hbel HOW0)
  obtain ⟨E0, f0, rfl, _, _⟩ := own_form HOW.out
  clear cj hwj
  rw [rounds_succ]
  have cj := HTB.out.cell 1; simp at cj
  have hwj : IntKind.u64.wrap (x5.size : Int) = x5.size := by rw [IntKind.wrap_u64]; omega
  go_upto_region 13 with (first | (go_at_call 59; refine (numberR_any _ x5.size 2 (by omega) (by omega)).mono ?_; rintro e ua ⟨va, rfl, hrd, ho⟩; obtain ⟨An, cn, hva, _, _⟩ := hrd.formb; rw [lowB_length] at hva; subst hva; have HRA := hide hrd.reads; replace HOW := hide (own_only HOW.out ho (by simp)); replace HTB := hide (HTB.out.only ho (by simp)); replace HO := hide (HO.out.trans ho); replace HBS := hide (Nat.le_trans HBS.out ho.size); clear ho hrd) | (at_builtin; refine wpList_append_any _ rfl (.tmp 44) (.tmp 51) 23 rfl (w.heap.size + 1) 5 i0 (.int .u8 0) 1 1 Tryd.underlying23 hi hz0 hz1 hz2 rfl (by decide) _ (4 + 4 + 2 + x4.size) _ rfl HOW.out ua.heap.size An 2 cn (ints .u8 (byts (lowB 2 x5.size))) rfl HRA.out (ints_one _ _) (by unfold maxLen; omega) (by omega) HBS.out ?_; intro vv wa1 hown1 hg1 _; have hbel := below_row hg1 (fun jj hjj => own_block_ge HOW.out hjj) HBS.out; rw [← ints_append, ← byts_append] at hown1; have HOW0 := HOW; replace HOW := hide hown1; replace HTB := hide (HTB.out.grown hg1 (own_ne HOW0.out HTB.out (by decide))); replace HO := hide (only_below HO.out hbel (by omega)); replace HBS := hide (Nat.le_trans HBS.out hbel.size); clear hown1 hg1 hbel HRA))
  obtain ⟨B1, d1, rfl, _, _⟩ := own_form HOW.out
  clear cj
  have cj := HTB.out.cell 1; simp at cj
  go_wp2_with (at_builtin; refine Lib.wpList_append_own_string _ rfl _ _ 23 9 rfl (w.heap.size + 1) 5 i0 Tryd.underlying23 Tryd.underlying9 hi hz0 hz1 hz2 _ (4 + 4 + 2 + x4.size + 2) _ rfl HOW.out x5 rfl (by unfold maxLen; omega) (by omega) HBS.out ?_; intro vv wb1 hown1 hg1 _; have hbel := below_row hg1 (fun jj hjj => own_block_ge HOW.out hjj) HBS.out; rw [str_cells, ← ints_append, ← byts_append] at hown1; have HOW0 := HOW; replace HOW := hide hown1; replace HTB := hide (HTB.out.grown hg1 (own_ne HOW0.out HTB.out (by decide))); replace HO := hide (only_below HO.out hbel (by omega)); replace HBS := hide (Nat.le_trans HBS.out hbel.size); clear hown1 hg1 hbel HOW0)
  obtain ⟨E1, f1, rfl, _, _⟩ := own_form HOW.out
  clear cj hwj
  rw [rounds_succ]
  have cj := HTB.out.cell 2; simp at cj
  have hwj : IntKind.u64.wrap (x6.size : Int) = x6.size := by rw [IntKind.wrap_u64]; omega
  go_upto_region 13 with (first | (go_at_call 59; refine (numberR_any _ x6.size 2 (by omega) (by omega)).mono ?_; rintro e ua ⟨va, rfl, hrd, ho⟩; obtain ⟨An, cn, hva, _, _⟩ := hrd.formb; rw [lowB_length] at hva; subst hva; have HRA := hide hrd.reads; replace HOW := hide (own_only HOW.out ho (by simp)); replace HTB := hide (HTB.out.only ho (by simp)); replace HO := hide (HO.out.trans ho); replace HBS := hide (Nat.le_trans HBS.out ho.size); clear ho hrd) | (at_builtin; refine wpList_append_any _ rfl (.tmp 44) (.tmp 51) 23 rfl (w.heap.size + 1) 5 i0 (.int .u8 0) 1 1 Tryd.underlying23 hi hz0 hz1 hz2 rfl (by decide) _ (4 + 4 + 2 + x4.size + 2 + x5.size) _ rfl HOW.out ua.heap.size An 2 cn (ints .u8 (byts (lowB 2 x6.size))) rfl HRA.out (ints_one _ _) (by unfold maxLen; omega) (by omega) HBS.out ?_; intro vv wa2 hown1 hg1 _; have hbel := below_row hg1 (fun jj hjj => own_block_ge HOW.out hjj) HBS.out; rw [← ints_append, ← byts_append] at hown1; have HOW0 := HOW; replace HOW := hide hown1; replace HTB := hide (HTB.out.grown hg1 (own_ne HOW0.out HTB.out (by decide))); replace HO := hide (only_below HO.out hbel (by omega)); replace HBS := hide (Nat.le_trans HBS.out hbel.size); clear hown1 hg1 hbel HRA))
  obtain ⟨B2, d2, rfl, _, _⟩ := own_form HOW.out
  clear cj
  have cj := HTB.out.cell 2; simp at cj
  go_wp2_with (at_builtin; refine Lib.wpList_append_own_string _ rfl _ _ 23 9 rfl (w.heap.size + 1) 5 i0 Tryd.underlying23 Tryd.underlying9 hi hz0 hz1 hz2 _ (4 + 4 + 2 + x4.size + 2 + x5.size + 2) _ rfl HOW.out x6 rfl (by unfold maxLen; omega) (by omega) HBS.out ?_; intro vv wb2 hown1 hg1 _; have hbel := below_row hg1 (fun jj hjj => own_block_ge HOW.out hjj) HBS.out; rw [str_cells, ← ints_append, ← byts_append] at hown1; have HOW0 := HOW; replace HOW := hide hown1; replace HTB := hide (HTB.out.grown hg1 (own_ne HOW0.out HTB.out (by decide))); replace HO := hide (only_below HO.out hbel (by omega)); replace HBS := hide (Nat.le_trans HBS.out hbel.size); clear hown1 hg1 hbel HOW0)
  obtain ⟨E2, f2, rfl, _, _⟩ := own_form HOW.out
  clear cj hwj
  rw [rounds_succ]
  have cj := HTB.out.cell 3; simp at cj
  have hwj : IntKind.u64.wrap (x11.size : Int) = x11.size := by rw [IntKind.wrap_u64]; omega
  go_upto_region 13 with (first | (go_at_call 59; refine (numberR_any _ x11.size 2 (by omega) (by omega)).mono ?_; rintro e ua ⟨va, rfl, hrd, ho⟩; obtain ⟨An, cn, hva, _, _⟩ := hrd.formb; rw [lowB_length] at hva; subst hva; have HRA := hide hrd.reads; replace HOW := hide (own_only HOW.out ho (by simp)); replace HTB := hide (HTB.out.only ho (by simp)); replace HO := hide (HO.out.trans ho); replace HBS := hide (Nat.le_trans HBS.out ho.size); clear ho hrd) | (at_builtin; refine wpList_append_any _ rfl (.tmp 44) (.tmp 51) 23 rfl (w.heap.size + 1) 5 i0 (.int .u8 0) 1 1 Tryd.underlying23 hi hz0 hz1 hz2 rfl (by decide) _ (4 + 4 + 2 + x4.size + 2 + x5.size + 2 + x6.size) _ rfl HOW.out ua.heap.size An 2 cn (ints .u8 (byts (lowB 2 x11.size))) rfl HRA.out (ints_one _ _) (by unfold maxLen; omega) (by omega) HBS.out ?_; intro vv wa3 hown1 hg1 _; have hbel := below_row hg1 (fun jj hjj => own_block_ge HOW.out hjj) HBS.out; rw [← ints_append, ← byts_append] at hown1; have HOW0 := HOW; replace HOW := hide hown1; replace HTB := hide (HTB.out.grown hg1 (own_ne HOW0.out HTB.out (by decide))); replace HO := hide (only_below HO.out hbel (by omega)); replace HBS := hide (Nat.le_trans HBS.out hbel.size); clear hown1 hg1 hbel HRA))
  obtain ⟨B3, d3, rfl, _, _⟩ := own_form HOW.out
  clear cj
  have cj := HTB.out.cell 3; simp at cj
  go_wp2_with (at_builtin; refine Lib.wpList_append_own_string _ rfl _ _ 23 9 rfl (w.heap.size + 1) 5 i0 Tryd.underlying23 Tryd.underlying9 hi hz0 hz1 hz2 _ (4 + 4 + 2 + x4.size + 2 + x5.size + 2 + x6.size + 2) _ rfl HOW.out x11 rfl (by unfold maxLen; omega) (by omega) HBS.out ?_; intro vv wb3 hown1 hg1 _; have hbel := below_row hg1 (fun jj hjj => own_block_ge HOW.out hjj) HBS.out; rw [str_cells, ← ints_append, ← byts_append] at hown1; have HOW0 := HOW; replace HOW := hide hown1; replace HTB := hide (HTB.out.grown hg1 (own_ne HOW0.out HTB.out (by decide))); replace HO := hide (only_below HO.out hbel (by omega)); replace HBS := hide (Nat.le_trans HBS.out hbel.size); clear hown1 hg1 hbel HOW0)
  obtain ⟨E3, f3, rfl, _, _⟩ := own_form HOW.out
  clear cj hwj
  rw [rounds_succ]
  have cj := HTB.out.cell 4; simp at cj
  have hwj : IntKind.u64.wrap (x12.size : Int) = x12.size := by rw [IntKind.wrap_u64]; omega
  go_upto_region 13 with (first | (go_at_call 59; refine (numberR_any _ x12.size 2 (by omega) (by omega)).mono ?_; rintro e ua ⟨va, rfl, hrd, ho⟩; obtain ⟨An, cn, hva, _, _⟩ := hrd.formb; rw [lowB_length] at hva; subst hva; have HRA := hide hrd.reads; replace HOW := hide (own_only HOW.out ho (by simp)); replace HTB := hide (HTB.out.only ho (by simp)); replace HO := hide (HO.out.trans ho); replace HBS := hide (Nat.le_trans HBS.out ho.size); clear ho hrd) | (at_builtin; refine wpList_append_any _ rfl (.tmp 44) (.tmp 51) 23 rfl (w.heap.size + 1) 5 i0 (.int .u8 0) 1 1 Tryd.underlying23 hi hz0 hz1 hz2 rfl (by decide) _ (4 + 4 + 2 + x4.size + 2 + x5.size + 2 + x6.size + 2 + x11.size) _ rfl HOW.out ua.heap.size An 2 cn (ints .u8 (byts (lowB 2 x12.size))) rfl HRA.out (ints_one _ _) (by unfold maxLen; omega) (by omega) HBS.out ?_; intro vv wa4 hown1 hg1 _; have hbel := below_row hg1 (fun jj hjj => own_block_ge HOW.out hjj) HBS.out; rw [← ints_append, ← byts_append] at hown1; have HOW0 := HOW; replace HOW := hide hown1; replace HTB := hide (HTB.out.grown hg1 (own_ne HOW0.out HTB.out (by decide))); replace HO := hide (only_below HO.out hbel (by omega)); replace HBS := hide (Nat.le_trans HBS.out hbel.size); clear hown1 hg1 hbel HRA))
  obtain ⟨B4, d4, rfl, _, _⟩ := own_form HOW.out
  clear cj
  have cj := HTB.out.cell 4; simp at cj
  go_wp2_with (at_builtin; refine Lib.wpList_append_own_string _ rfl _ _ 23 9 rfl (w.heap.size + 1) 5 i0 Tryd.underlying23 Tryd.underlying9 hi hz0 hz1 hz2 _ (4 + 4 + 2 + x4.size + 2 + x5.size + 2 + x6.size + 2 + x11.size + 2) _ rfl HOW.out x12 rfl (by unfold maxLen; omega) (by omega) HBS.out ?_; intro vv wb4 hown1 hg1 _; have hbel := below_row hg1 (fun jj hjj => own_block_ge HOW.out hjj) HBS.out; rw [str_cells, ← ints_append, ← byts_append] at hown1; have HOW0 := HOW; replace HOW := hide hown1; replace HTB := hide (HTB.out.grown hg1 (own_ne HOW0.out HTB.out (by decide))); replace HO := hide (only_below HO.out hbel (by omega)); replace HBS := hide (Nat.le_trans HBS.out hbel.size); clear hown1 hg1 hbel HOW0)
  obtain ⟨E4, f4, rfl, _, _⟩ := own_form HOW.out
  clear cj hwj
  rw [rounds_succ]
  go_wp2_with fail
  go_ret
  exact ⟨_, rfl, (Rd.of_own (N := []) HOW.out (by simp)).1, HO.out⟩
end
section
open Go.RowKit Go.Deep

theorem num_fwd {z n : Nat} (q : List UInt8) (h : n < 256 ^ z) : numV z (lowB z n ++ q) = (0, n, q) := by
  unfold numV
  have e := lowB_length z n
  rw [if_neg (by rw [List.length_append, e]; omega)]
  rw [List.take_left' e, List.drop_left' e, lowV_lowB z n h]
theorem text_fwd {t : ByteArray} (q : List UInt8) (h : fitW t = true) : textV ((lowB 2 t.size ++ t.data.toList) ++ q) = (0, t, q) := by
  have hs := fit_size h
  have e := lowB_length 2 t.size
  have hl : t.data.toList.length = t.size := rfl
  unfold textV
  rw [List.append_assoc]
  rw [if_neg (by rw [List.length_append, e]; omega)]
  rw [List.take_left' e, List.drop_left' e, lowV_lowB 2 t.size (by omega)]
  rw [if_neg (by rw [List.length_append, hl]; omega), List.take_left' hl, List.drop_left' hl]
  have ht : (⟨t.data.toList.toArray⟩ : ByteArray) = t := by simp
  rw [ht, if_pos h]
theorem head_fwd (c : UInt8) (h : c = 1 ∨ c = 2 ∨ c = 3 ∨ c = 4) (q : List UInt8) : headV ([c, 0, 0, 0] ++ q) = (0, (c.toNat : Int), q) := by
  have e : headV ([c, 0, 0, 0] ++ q) = if (zeroV 3 ([0, 0, 0] ++ q)).1 = 0 then (0, (c.toNat : Int), (zeroV 3 ([0, 0, 0] ++ q)).2) else ((zeroV 3 ([0, 0, 0] ++ q)).1, 0, []) := if_pos h
  rw [e]
  simp [zeroV]
theorem fin_num_fwd {i z n : Nat} {r : List Nat} {q : List UInt8} {cs : Array Value} (hi : i = 1 ∧ z = 4 ∨ i = 2 ∧ z = 4 ∨ i = 3 ∧ z = 8) (h : n < 256 ^ z) : finF (i :: r) (lowB z n ++ q) cs = finF r q (cs.setIfInBounds i (numc i n)) := by
  have e : ∀ q, fieldV i q = ((numV z q).1, numc i (numV z q).2.1, (numV z q).2.2) := by
    rcases hi with ⟨rfl, rfl⟩ | ⟨rfl, rfl⟩ | ⟨rfl, rfl⟩ <;> exact fun q => rfl
  conv => lhs; unfold finF
  rw [e, num_fwd q h]
  simp only [if_true]
theorem fin_text_fwd {i : Nat} {r : List Nat} {q : List UInt8} {cs : Array Value} {t : ByteArray} (hi : 4 ≤ i) (h : fitW t = true) : finF (i :: r) ((lowB 2 t.size ++ t.data.toList) ++ q) cs = finF r q (cs.setIfInBounds i (.string t)) := by
  have e : ∀ q, fieldV i q = ((textV q).1, .string (textV q).2.1, (textV q).2.2) := by
    intro q
    unfold fieldV
    rw [if_neg (by omega), if_neg (by omega)]
  conv => lhs; unfold finF
  rw [e, text_fwd q h]
  simp only [if_true]
theorem fin_end_fwd {cs : Array Value} : finF [] [] cs = (0, cs) := by unfold finF; rw [if_pos rfl]
set_option maxRecDepth 100000 in
set_option maxHeartbeats 3200000 in
theorem read_print (m : Mg) (hF : m.Fine) (h : rightM m = true) : readV (printM m) = (0, m.cells) := by
  have hs := hF.s
  have hr := hF.r
  have hc := hF.c
  have hk := h
  unfold rightM at hk
  rw [Bool.and_eq_true, Bool.and_eq_true] at hk
  obtain ⟨hk1, hft, heq⟩ := hk
  have hk2 := of_decide_eq_true hk1
  have heq2 : onlyM m = m := (eqM_iff _ _).1 heq
  rw [← heq2]
  obtain ⟨k, s, r, c, x4, x5, x6, x7, x8, x9, x10, x11, x12⟩ := m
  simp only at hk2 hs hr hc
  obtain rfl | rfl | rfl | rfl : k = 1 ∨ k = 2 ∨ k = 3 ∨ k = 4 := by omega
  · simp [textsM] at hft
    obtain ⟨f4, f5, f6, f11, f12⟩ := hft
    have e : printM (onlyM ⟨1, s, r, c, x4, x5, x6, x7, x8, x9, x10, x11, x12⟩) = [1, 0, 0, 0] ++ (lowB 4 s ++ ((lowB 2 x4.size ++ x4.data.toList) ++ ((lowB 2 x5.size ++ x5.data.toList) ++ ((lowB 2 x6.size ++ x6.data.toList) ++ ((lowB 2 x11.size ++ x11.data.toList) ++ ((lowB 2 x12.size ++ x12.data.toList) ++ [])))))) := by
      simp [printM, onlyM, txtA]
    rw [e, read_fin (head_fwd 1 (by decide) _)]
    show finF [1, 4, 5, 6, 11, 12] _ (zeroM 1) = _
    rw [fin_num_fwd (z := 4) (.inl ⟨rfl, rfl⟩) (by simpa using hs), fin_text_fwd (by omega) f4, fin_text_fwd (by omega) f5, fin_text_fwd (by omega) f6, fin_text_fwd (by omega) f11, fin_text_fwd (by omega) f12, fin_end_fwd]
    rfl
  · simp [textsM] at hft
    obtain ⟨f4, f7, f11, f12⟩ := hft
    have e : printM (onlyM ⟨2, s, r, c, x4, x5, x6, x7, x8, x9, x10, x11, x12⟩) = [2, 0, 0, 0] ++ (lowB 4 s ++ (lowB 4 r ++ ((lowB 2 x4.size ++ x4.data.toList) ++ ((lowB 2 x7.size ++ x7.data.toList) ++ ((lowB 2 x11.size ++ x11.data.toList) ++ ((lowB 2 x12.size ++ x12.data.toList) ++ [])))))) := by
      simp [printM, onlyM, txtA]
    rw [e, read_fin (head_fwd 2 (by decide) _)]
    show finF [1, 2, 4, 7, 11, 12] _ (zeroM 2) = _
    rw [fin_num_fwd (z := 4) (.inl ⟨rfl, rfl⟩) (by simpa using hs), fin_num_fwd (z := 4) (.inr (.inl ⟨rfl, rfl⟩)) (by simpa using hr), fin_text_fwd (by omega) f4, fin_text_fwd (by omega) f7, fin_text_fwd (by omega) f11, fin_text_fwd (by omega) f12, fin_end_fwd]
    rfl
  · simp [textsM] at hft
    obtain ⟨f8, f9⟩ := hft
    have e : printM (onlyM ⟨3, s, r, c, x4, x5, x6, x7, x8, x9, x10, x11, x12⟩) = [3, 0, 0, 0] ++ (lowB 4 r ++ ((lowB 2 x8.size ++ x8.data.toList) ++ ((lowB 2 x9.size ++ x9.data.toList) ++ []))) := by
      simp [printM, onlyM, txtA]
    rw [e, read_fin (head_fwd 3 (by decide) _)]
    show finF [2, 8, 9] _ (zeroM 3) = _
    rw [fin_num_fwd (z := 4) (.inr (.inl ⟨rfl, rfl⟩)) (by simpa using hr), fin_text_fwd (by omega) f8, fin_text_fwd (by omega) f9, fin_end_fwd]
    rfl
  · simp [textsM] at hft
    have e : printM (onlyM ⟨4, s, r, c, x4, x5, x6, x7, x8, x9, x10, x11, x12⟩) = [4, 0, 0, 0] ++ (lowB 4 r ++ (lowB 8 c ++ ((lowB 2 x10.size ++ x10.data.toList) ++ []))) := by
      simp [printM, onlyM, txtA]
    rw [e, read_fin (head_fwd 4 (by decide) _)]
    show finF [2, 3, 10] _ (zeroM 4) = _
    rw [fin_num_fwd (z := 4) (.inr (.inl ⟨rfl, rfl⟩)) (by simpa using hr), fin_num_fwd (z := 8) (.inr (.inr ⟨rfl, rfl⟩)) (by simpa using hc), fin_text_fwd (by omega) hft, fin_end_fwd]
    rfl
end
end Go.Proofs.YteoifokmbkpbnaaDoor

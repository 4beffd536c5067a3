/-
  Walks and plain words for WirePrints (texts Wqp4, Wn, Wn2, Wa6, Wpw, Omsg). No condition beyond those that each theorem states.
-/
import Derived.Deep.RegionHeld3
import Derived.SliceStrings
import Derived.Test.YtfmfnfmhknlpbaaDoorP22
namespace Go.Proofs.YtfmfnfmhknlpbaaDoor
section
open Go.RowKit Go.Deep

set_option maxRecDepth 100000 in
set_option maxHeartbeats 12800000 in
theorem PrintR_4 (w : World) (s r c : Nat) (x4 x5 x6 x7 x8 x9 x10 x11 x12 : ByteArray) (hF : (Mg.mk 4 s r c x4 x5 x6 x7 x8 x9 x10 x11 x12).Fine) (hB : rightM (Mg.mk 4 s r c x4 x5 x6 x7 x8 x9 x10 x11 x12) = true) :
    Calls Tryd.prog 41 #[.agg #[.int .i64 4, .int .u32 (s : Nat), .int .u32 (r : Nat), .int .u64 (c : Nat), .string x4, .string x5, .string x6, .string x7, .string x8, .string x9, .string x10, .string x11, .string x12]] w fun e w' => ∃ v, e = .returned v ∧ Rd w' [] v (ints .u8 (byts (printM (Mg.mk 4 s r c x4 x5 x6 x7 x8 x9 x10 x11 x12)))) ∧ Only [] w w' := by
  obtain ⟨hs, hr, hc, hx4, hx5, hx6, hx7, hx8, hx9, hx10, hx11, hx12⟩ := hF
  simp only at hs hr hc hx4 hx5 hx6 hx7 hx8 hx9 hx10 hx11 hx12
  have hz10 : x10.size ≤ 65535 := fit_size (by have h := hB; simp [rightM, textsM] at h; simp [h])
  obtain ⟨i0, hi, hz0, hz1, hz2⟩ := info_parts (show (Tryd.prog.info? 5).map (fun i => (i.zero, i.size, i.bytes)) = some (some (.int .u8 0), 1, 1) by kernel_rfl)
  have HTR := hide (fun W => TermsR_4 W s r c x4 x5 x6 x7 x8 x9 x10 x11 x12)
  unfold TermsRPost at HTR
  rw [show (textsM (Mg.mk 4 s r c x4 x5 x6 x7 x8 x9 x10 x11 x12)).length = 1 from rfl] at HTR
  have HOW := hide (show ((w.alloc (.cells #[.int .i64 4, .int .u32 (s : Nat), .int .u32 (r : Nat), .int .u64 (c : Nat), .string x4, .string x5, .string x6, .string x7, .string x8, .string x9, .string x10, .string x11, .string x12] 53)).alloc (.cells #[.int .u8 4, .int .u8 0, .int .u8 0, .int .u8 0] 5)).ownsRow (w.heap.size + 1) 5 1 (.slice (some ⟨w.heap.size + 1, 0, none⟩) 4 4) 4 (ints .u8 (byts [4, 0, 0, 0])) by
    have h := World.ownsRow_lit (base := w.heap.size + 1) (e := 5) (size := 1) (w.alloc (.cells #[.int .i64 4, .int .u32 (s : Nat), .int .u32 (r : Nat), .int .u64 (c : Nat), .string x4, .string x5, .string x6, .string x7, .string x8, .string x9, .string x10, .string x11, .string x12] 53)) #[.int .u8 4, .int .u8 0, .int .u8 0, .int .u8 0] 4 (by simp) (by unfold maxLen; omega) rfl
    rw [World.size_alloc] at h
    exact h)
  have HMB := hide ((Blk.new w 53 #[.int .i64 4, .int .u32 (s : Nat), .int .u32 (r : Nat), .int .u64 (c : Nat), .string x4, .string x5, .string x6, .string x7, .string x8, .string x9, .string x10, .string x11, .string x12]).alloc (.cells #[.int .u8 4, .int .u8 0, .int .u8 0, .int .u8 0] 5))
  have HO := hide (((Only.refl [] w).alloc (.cells #[.int .i64 4, .int .u32 (s : Nat), .int .u32 (r : Nat), .int .u64 (c : Nat), .string x4, .string x5, .string x6, .string x7, .string x8, .string x9, .string x10, .string x11, .string x12] 53)).alloc (.cells #[.int .u8 4, .int .u8 0, .int .u8 0, .int .u8 0] 5))
  clear hB
  go_enter Tryd.func41, Tryd.ntmps41
  go_upto_region 2 with fail
  generalize ((w.alloc (.cells #[.int .i64 4, .int .u32 (s : Nat), .int .u32 (r : Nat), .int .u64 (c : Nat), .string x4, .string x5, .string x6, .string x7, .string x8, .string x9, .string x10, .string x11, .string x12] 53)).alloc (.cells #[.int .u8 4, .int .u8 0, .int .u8 0, .int .u8 0] 5)) = v0 at *
  have HBS := hide (show w.heap.size + 1 ≤ v0.heap.size by have := HMB.out.lt; omega)
  have m0 := HMB.out.cell 0; have m1 := HMB.out.cell 1; have m2 := HMB.out.cell 2; have m3 := HMB.out.cell 3; simp at m0 m1 m2 m3
  go_upto_region 6 with (first | (go_at_call 76; refine (numberR_any _ r 4 (by omega) (by omega)).mono ?_; rintro e ua ⟨va, rfl, hrd, ho⟩; obtain ⟨An, cn, hva, _, _⟩ := hrd.formb; rw [lowB_length] at hva; subst hva; have HRA := hide hrd.reads; replace HOW := hide (own_only HOW.out ho (by simp)); replace HMB := hide (HMB.out.only ho (by simp)); clear m0 m1 m2 m3; replace HO := hide (HO.out.trans ho); replace HBS := hide (Nat.le_trans HBS.out ho.size); clear ho hrd) | (at_builtin; refine wpList_append_any _ rfl (.tmp 22) (.tmp 26) 30 rfl (w.heap.size + 1) 5 i0 (.int .u8 0) 1 1 Tryd.underlying30 hi hz0 hz1 hz2 rfl (by decide) _ (4) _ rfl HOW.out ua.heap.size An 4 cn (ints .u8 (byts (lowB 4 r))) rfl HRA.out (ints_one _ _) (by unfold maxLen; omega) (by omega) HBS.out ?_; intro vv v1 hown1 hg1 _; have hbel := below_row hg1 (fun jj hjj => own_block_ge HOW.out hjj) HBS.out; rw [← ints_append, ← byts_append] at hown1; replace HOW := hide hown1; replace HMB := hide (HMB.out.below hbel (by omega)); replace HO := hide (only_below HO.out hbel (by omega)); replace HBS := hide (Nat.le_trans HBS.out hbel.size); clear hown1 hg1 hbel HRA))
  obtain ⟨A1, c1, rfl, _, _⟩ := own_form HOW.out
  have m0 := HMB.out.cell 0; have m1 := HMB.out.cell 1; have m2 := HMB.out.cell 2; have m3 := HMB.out.cell 3
  simp at m0 m1 m2 m3
  go_upto_region 8 with (first | (go_at_call 76; refine (numberR_any _ c 8 (by omega) (by omega)).mono ?_; rintro e ua ⟨va, rfl, hrd, ho⟩; obtain ⟨An, cn, hva, _, _⟩ := hrd.formb; rw [lowB_length] at hva; subst hva; have HRA := hide hrd.reads; replace HOW := hide (own_only HOW.out ho (by simp)); replace HMB := hide (HMB.out.only ho (by simp)); clear m0 m1 m2 m3; replace HO := hide (HO.out.trans ho); replace HBS := hide (Nat.le_trans HBS.out ho.size); clear ho hrd) | (at_builtin; refine wpList_append_any _ rfl (.tmp 31) (.tmp 34) 30 rfl (w.heap.size + 1) 5 i0 (.int .u8 0) 1 1 Tryd.underlying30 hi hz0 hz1 hz2 rfl (by decide) _ (4 + 4) _ rfl HOW.out ua.heap.size An 8 cn (ints .u8 (byts (lowB 8 c))) rfl HRA.out (ints_one _ _) (by unfold maxLen; omega) (by omega) HBS.out ?_; intro vv v2 hown1 hg1 _; have hbel := below_row hg1 (fun jj hjj => own_block_ge HOW.out hjj) HBS.out; rw [← ints_append, ← byts_append] at hown1; replace HOW := hide hown1; replace HMB := hide (HMB.out.below hbel (by omega)); replace HO := hide (only_below HO.out hbel (by omega)); replace HBS := hide (Nat.le_trans HBS.out hbel.size); clear hown1 hg1 hbel HRA))
  obtain ⟨A2, c2, rfl, _, _⟩ := own_form HOW.out
  have m0 := HMB.out.cell 0; have m1 := HMB.out.cell 1; have m2 := HMB.out.cell 2; have m3 := HMB.out.cell 3
  simp at m0 m1 m2 m3
  have m4 := HMB.out.cell 4; have m5 := HMB.out.cell 5; have m6 := HMB.out.cell 6; have m7 := HMB.out.cell 7; have m8 := HMB.out.cell 8; have m9 := HMB.out.cell 9; have m10 := HMB.out.cell 10; have m11 := HMB.out.cell 11; have m12 := HMB.out.cell 12
  simp at m4 m5 m6 m7 m8 m9 m10 m11 m12
  go_upto_region 10 with (go_at_call 42; refine (HTR.out _).mono ?_; rintro e vt ⟨g, rfl, hg, hb, ho⟩; have HTB := hide (show Blk vt g 9 #[.string x10] from hb); replace HOW := hide (own_only HOW.out ho (by simp)); replace HO := hide (HO.out.trans ho); replace HBS := hide (Nat.le_trans HBS.out ho.size); have HRW := hide (show Rd vt [] (.slice (some ⟨g, 0, none⟩) 1 1) (strc [x10]) from blk_strs hb [] (by simp) (by unfold maxLen; show 1 ≤ _; omega)); have HGB := hide hg; clear hg hb ho m0 m1 m2 m3 m4 m5 m6 m7 m8 m9 m10 m11 m12)
  refine wp_loop_rounds 2 ?_
  rw [rounds_succ]
  have cj := HTB.out.cell 0; simp at cj
  have hwj : IntKind.u64.wrap (x10.size : Int) = x10.size := by rw [IntKind.wrap_u64]; omega
  go_upto_region 13 with (first | (go_at_call 76; refine (numberR_any _ x10.size 2 (by omega) (by omega)).mono ?_; rintro e ua ⟨va, rfl, hrd, ho⟩; obtain ⟨An, cn, hva, _, _⟩ := hrd.formb; rw [lowB_length] at hva; subst hva; have HRA := hide hrd.reads; replace HOW := hide (own_only HOW.out ho (by simp)); replace HTB := hide (HTB.out.only ho (by simp)); replace HO := hide (HO.out.trans ho); replace HBS := hide (Nat.le_trans HBS.out ho.size); clear ho hrd) | (at_builtin; refine wpList_append_any _ rfl (.tmp 44) (.tmp 51) 30 rfl (w.heap.size + 1) 5 i0 (.int .u8 0) 1 1 Tryd.underlying30 hi hz0 hz1 hz2 rfl (by decide) _ (4 + 4 + 8) _ rfl HOW.out ua.heap.size An 2 cn (ints .u8 (byts (lowB 2 x10.size))) rfl HRA.out (ints_one _ _) (by unfold maxLen; omega) (by omega) HBS.out ?_; intro vv wa0 hown1 hg1 _; have hbel := below_row hg1 (fun jj hjj => own_block_ge HOW.out hjj) HBS.out; rw [← ints_append, ← byts_append] at hown1; have HOW0 := HOW; replace HOW := hide hown1; replace HTB := hide (HTB.out.grown hg1 (own_ne HOW0.out HTB.out (by decide))); replace HO := hide (only_below HO.out hbel (by omega)); replace HBS := hide (Nat.le_trans HBS.out hbel.size); clear hown1 hg1 hbel HRA))
  obtain ⟨B0, d0, rfl, _, _⟩ := own_form HOW.out
  clear cj
  have cj := HTB.out.cell 0; simp at cj
  go_wp2_with (at_builtin; refine Lib.wpList_append_own_string _ rfl _ _ 30 9 rfl (w.heap.size + 1) 5 i0 Tryd.underlying30 Tryd.underlying9 hi hz0 hz1 hz2 _ (4 + 4 + 8 + 2) _ rfl HOW.out x10 rfl (by unfold maxLen; omega) (by omega) HBS.out ?_; intro vv wb0 hown1 hg1 _; have hbel := below_row hg1 (fun jj hjj => own_block_ge HOW.out hjj) HBS.out; rw [str_cells, ← ints_append, ← byts_append] at hown1; have HOW0 := HOW; replace HOW := hide hown1; replace HTB := hide (HTB.out.grown hg1 (own_ne HOW0.out HTB.out (by decide))); replace HO := hide (only_below HO.out hbel (by omega)); replace HBS := hide (Nat.le_trans HBS.out hbel.size); clear hown1 hg1 hbel HOW0)
  obtain ⟨E0, f0, rfl, _, _⟩ := own_form HOW.out
  clear cj hwj
  rw [rounds_succ]
  go_wp2_with fail
  go_ret
  exact ⟨_, rfl, (Rd.of_own (N := []) HOW.out (by simp)).1, HO.out⟩
end
section
open Go.RowKit Go.Deep

theorem noT_size : noT.size = 0 := rfl
theorem fine_of {m : Mg} (hs : m.s < 4294967296) (hr : m.r < 4294967296) (hc : m.c < 18446744073709551616) (h4 : m.x4.size ≤ 65535) (h5 : m.x5.size ≤ 65535) (h6 : m.x6.size ≤ 65535) (h7 : m.x7.size ≤ 65535) (h8 : m.x8.size ≤ 65535) (h9 : m.x9.size ≤ 65535) (h10 : m.x10.size ≤ 65535) (h11 : m.x11.size ≤ 65535) (h12 : m.x12.size ≤ 65535) : m.Fine := by
  have h : 65535 ≤ maxLen := by unfold maxLen; omega
  exact ⟨hs, hr, hc, Nat.le_trans h4 h, Nat.le_trans h5 h, Nat.le_trans h6 h, Nat.le_trans h7 h, Nat.le_trans h8 h, Nat.le_trans h9 h, Nat.le_trans h10 h, Nat.le_trans h11 h, Nat.le_trans h12 h⟩
end
section
open Go.RowKit Go.Deep

theorem num_fwd {z n : Nat} (q : List UInt8) (h : n < 256 ^ z) : numV z (lowB z n ++ q) = (0, n, q) := by
  unfold numV
  have e := lowB_length z n
  rw [if_neg (by rw [List.length_append, e]; omega)]
  rw [List.take_left' e, List.drop_left' e, lowV_lowB z n h]
theorem text_fwd {t : ByteArray} (q : List UInt8) (h : fitW t = true) : textV ((lowB 2 t.size ++ t.data.toList) ++ q) = (0, t, q) := by
  have hs := fit_size h
  have e := lowB_length 2 t.size
  have hl : t.data.toList.length = t.size := rfl
  unfold textV
  rw [List.append_assoc]
  rw [if_neg (by rw [List.length_append, e]; omega)]
  rw [List.take_left' e, List.drop_left' e, lowV_lowB 2 t.size (by omega)]
  rw [if_neg (by rw [List.length_append, hl]; omega), List.take_left' hl, List.drop_left' hl]
  have ht : (⟨t.data.toList.toArray⟩ : ByteArray) = t := by simp
  rw [ht, if_pos h]
theorem head_fwd (c : UInt8) (h : c = 1 ∨ c = 2 ∨ c = 3 ∨ c = 4) (q : List UInt8) : headV ([c, 0, 0, 0] ++ q) = (0, (c.toNat : Int), q) := by
  have e : headV ([c, 0, 0, 0] ++ q) = if (zeroV 3 ([0, 0, 0] ++ q)).1 = 0 then (0, (c.toNat : Int), (zeroV 3 ([0, 0, 0] ++ q)).2) else ((zeroV 3 ([0, 0, 0] ++ q)).1, 0, []) := if_pos h
  rw [e]
  simp [zeroV]
theorem fin_num_fwd {i z n : Nat} {r : List Nat} {q : List UInt8} {cs : Array Value} (hi : i = 1 ∧ z = 4 ∨ i = 2 ∧ z = 4 ∨ i = 3 ∧ z = 8) (h : n < 256 ^ z) : finF (i :: r) (lowB z n ++ q) cs = finF r q (cs.setIfInBounds i (numc i n)) := by
  have e : ∀ q, fieldV i q = ((numV z q).1, numc i (numV z q).2.1, (numV z q).2.2) := by
    rcases hi with ⟨rfl, rfl⟩ | ⟨rfl, rfl⟩ | ⟨rfl, rfl⟩ <;> exact fun q => rfl
  conv => lhs; unfold finF
  rw [e, num_fwd q h]
  simp only [if_true]
theorem fin_text_fwd {i : Nat} {r : List Nat} {q : List UInt8} {cs : Array Value} {t : ByteArray} (hi : 4 ≤ i) (h : fitW t = true) : finF (i :: r) ((lowB 2 t.size ++ t.data.toList) ++ q) cs = finF r q (cs.setIfInBounds i (.string t)) := by
  have e : ∀ q, fieldV i q = ((textV q).1, .string (textV q).2.1, (textV q).2.2) := by
    intro q
    unfold fieldV
    rw [if_neg (by omega), if_neg (by omega)]
  conv => lhs; unfold finF
  rw [e, text_fwd q h]
  simp only [if_true]
theorem fin_end_fwd {cs : Array Value} : finF [] [] cs = (0, cs) := by unfold finF; rw [if_pos rfl]
set_option maxRecDepth 100000 in
set_option maxHeartbeats 3200000 in
theorem read_print (m : Mg) (hF : m.Fine) (h : rightM m = true) : readV (printM m) = (0, m.cells) := by
  have hs := hF.s
  have hr := hF.r
  have hc := hF.c
  have hk := h
  unfold rightM at hk
  rw [Bool.and_eq_true, Bool.and_eq_true] at hk
  obtain ⟨hk1, hft, heq⟩ := hk
  have hk2 := of_decide_eq_true hk1
  have heq2 : onlyM m = m := (eqM_iff _ _).1 heq
  rw [← heq2]
  obtain ⟨k, s, r, c, x4, x5, x6, x7, x8, x9, x10, x11, x12⟩ := m
  simp only at hk2 hs hr hc
  obtain rfl | rfl | rfl | rfl : k = 1 ∨ k = 2 ∨ k = 3 ∨ k = 4 := by omega
  · simp [textsM] at hft
    obtain ⟨f4, f5, f6, f11, f12⟩ := hft
    have e : printM (onlyM ⟨1, s, r, c, x4, x5, x6, x7, x8, x9, x10, x11, x12⟩) = [1, 0, 0, 0] ++ (lowB 4 s ++ ((lowB 2 x4.size ++ x4.data.toList) ++ ((lowB 2 x5.size ++ x5.data.toList) ++ ((lowB 2 x6.size ++ x6.data.toList) ++ ((lowB 2 x11.size ++ x11.data.toList) ++ ((lowB 2 x12.size ++ x12.data.toList) ++ [])))))) := by
      simp [printM, onlyM, txtA]
    rw [e, read_fin (head_fwd 1 (by decide) _)]
    show finF [1, 4, 5, 6, 11, 12] _ (zeroM 1) = _
    rw [fin_num_fwd (z := 4) (.inl ⟨rfl, rfl⟩) (by simpa using hs), fin_text_fwd (by omega) f4, fin_text_fwd (by omega) f5, fin_text_fwd (by omega) f6, fin_text_fwd (by omega) f11, fin_text_fwd (by omega) f12, fin_end_fwd]
    rfl
  · simp [textsM] at hft
    obtain ⟨f4, f7, f11, f12⟩ := hft
    have e : printM (onlyM ⟨2, s, r, c, x4, x5, x6, x7, x8, x9, x10, x11, x12⟩) = [2, 0, 0, 0] ++ (lowB 4 s ++ (lowB 4 r ++ ((lowB 2 x4.size ++ x4.data.toList) ++ ((lowB 2 x7.size ++ x7.data.toList) ++ ((lowB 2 x11.size ++ x11.data.toList) ++ ((lowB 2 x12.size ++ x12.data.toList) ++ [])))))) := by
      simp [printM, onlyM, txtA]
    rw [e, read_fin (head_fwd 2 (by decide) _)]
    show finF [1, 2, 4, 7, 11, 12] _ (zeroM 2) = _
    rw [fin_num_fwd (z := 4) (.inl ⟨rfl, rfl⟩) (by simpa using hs), fin_num_fwd (z := 4) (.inr (.inl ⟨rfl, rfl⟩)) (by simpa using hr), fin_text_fwd (by omega) f4, fin_text_fwd (by omega) f7, fin_text_fwd (by omega) f11, fin_text_fwd (by omega) f12, fin_end_fwd]
    rfl
  · simp [textsM] at hft
    obtain ⟨f8, f9⟩ := hft
    have e : printM (onlyM ⟨3, s, r, c, x4, x5, x6, x7, x8, x9, x10, x11, x12⟩) = [3, 0, 0, 0] ++ (lowB 4 r ++ ((lowB 2 x8.size ++ x8.data.toList) ++ ((lowB 2 x9.size ++ x9.data.toList) ++ []))) := by
      simp [printM, onlyM, txtA]
    rw [e, read_fin (head_fwd 3 (by decide) _)]
    show finF [2, 8, 9] _ (zeroM 3) = _
    rw [fin_num_fwd (z := 4) (.inr (.inl ⟨rfl, rfl⟩)) (by simpa using hr), fin_text_fwd (by omega) f8, fin_text_fwd (by omega) f9, fin_end_fwd]
    rfl
  · simp [textsM] at hft
    have e : printM (onlyM ⟨4, s, r, c, x4, x5, x6, x7, x8, x9, x10, x11, x12⟩) = [4, 0, 0, 0] ++ (lowB 4 r ++ (lowB 8 c ++ ((lowB 2 x10.size ++ x10.data.toList) ++ []))) := by
      simp [printM, onlyM, txtA]
    rw [e, read_fin (head_fwd 4 (by decide) _)]
    show finF [2, 3, 10] _ (zeroM 4) = _
    rw [fin_num_fwd (z := 4) (.inr (.inl ⟨rfl, rfl⟩)) (by simpa using hr), fin_num_fwd (z := 8) (.inr (.inr ⟨rfl, rfl⟩)) (by simpa using hc), fin_text_fwd (by omega) hft, fin_end_fwd]
    rfl
theorem print_len (m : Mg) (h : rightM m = true) : (printM m).length ≤ 1099511627776 := by
  have hk := h
  unfold rightM at hk
  rw [Bool.and_eq_true, Bool.and_eq_true] at hk
  obtain ⟨hk1, hft, _⟩ := hk
  have hk2 := of_decide_eq_true hk1
  obtain ⟨k, s, r, c, x4, x5, x6, x7, x8, x9, x10, x11, x12⟩ := m
  simp only at hk2
  have hl : ∀ t : ByteArray, t.data.toList.length = t.size := fun t => rfl
  obtain rfl | rfl | rfl | rfl : k = 1 ∨ k = 2 ∨ k = 3 ∨ k = 4 := by omega
  · simp [textsM] at hft
    obtain ⟨f4, f5, f6, f11, f12⟩ := hft
    have := fit_size f4; have := fit_size f5; have := fit_size f6; have := fit_size f11; have := fit_size f12
    show (printM ⟨1, s, r, c, x4, x5, x6, x7, x8, x9, x10, x11, x12⟩).length ≤ _
    have e : printM ⟨1, s, r, c, x4, x5, x6, x7, x8, x9, x10, x11, x12⟩ = txtA (txtA (txtA (txtA (txtA ([1, 0, 0, 0] ++ lowB 4 s) x4) x5) x6) x11) x12 := rfl
    rw [e]
    simp only [txtA, List.length_append, lowB_length, hl, List.length_cons, List.length_nil]
    omega
  · simp [textsM] at hft
    obtain ⟨f4, f7, f11, f12⟩ := hft
    have := fit_size f4; have := fit_size f7; have := fit_size f11; have := fit_size f12
    have e : printM ⟨2, s, r, c, x4, x5, x6, x7, x8, x9, x10, x11, x12⟩ = txtA (txtA (txtA (txtA (([2, 0, 0, 0] ++ lowB 4 s) ++ lowB 4 r) x4) x7) x11) x12 := rfl
    rw [e]
    simp only [txtA, List.length_append, lowB_length, hl, List.length_cons, List.length_nil]
    omega
  · simp [textsM] at hft
    obtain ⟨f8, f9⟩ := hft
    have := fit_size f8; have := fit_size f9
    have e : printM ⟨3, s, r, c, x4, x5, x6, x7, x8, x9, x10, x11, x12⟩ = txtA (txtA ([3, 0, 0, 0] ++ lowB 4 r) x8) x9 := rfl
    rw [e]
    simp only [txtA, List.length_append, lowB_length, hl, List.length_cons, List.length_nil]
    omega
  · simp [textsM] at hft
    have := fit_size hft
    have e : printM ⟨4, s, r, c, x4, x5, x6, x7, x8, x9, x10, x11, x12⟩ = txtA (([4, 0, 0, 0] ++ lowB 4 r) ++ lowB 8 c) x10 := rfl
    rw [e]
    simp only [txtA, List.length_append, lowB_length, hl, List.length_cons, List.length_nil]
    omega
end
section
open Go.RowKit Go.Deep

set_option maxRecDepth 100000 in
set_option maxHeartbeats 12800000 in
theorem awake06 (w : World) : Calls Tryd.prog 33 #[] w fun e w' => e = .returned (.bool true) ∧ Only [] w w' := by
  have HP := hide (fun W => Print_4 W 0 7 1 noT noT noT noT noT noT ⟨#[48]⟩ noT noT (fine_of (by simp) (by simp) (by simp) (by rw [noT_size]; omega) (by rw [noT_size]; omega) (by rw [noT_size]; omega) (by rw [noT_size]; omega) (by rw [noT_size]; omega) (by rw [noT_size]; omega) (by show 1 ≤ 65535; omega) (by rw [noT_size]; omega) (by rw [noT_size]; omega)))
  unfold PrintPost at HP
  have hr : rightM ⟨4, 0, 7, 1, noT, noT, noT, noT, noT, noT, ⟨#[48]⟩, noT, noT⟩ = true := by kernel_rfl
  have hp : printM ⟨4, 0, 7, 1, noT, noT, noT, noT, noT, noT, ⟨#[48]⟩, noT, noT⟩ = [4, 0, 0, 0, 7, 0, 0, 0, 1, 0, 0, 0, 0, 0, 0, 0, 1, 0, 48] := by kernel_rfl
  simp only [hr, hp, if_true] at HP
  unfold noT at HP
  clear hr hp
  go_enter Tryd.func33, Tryd.ntmps33
  go_wp2_with (go_at_call 35; refine (HP.out _).mono ?_; rintro e w1 ⟨ho, v, rfl, hr⟩; obtain ⟨A, cap, rfl, _, _⟩ := hr.formb; have hcv : (convert 30 9 (.slice A 19 cap)).run Tryd.prog w1 = .ok (.string ⟨#[4, 0, 0, 0, 7, 0, 0, 0, 1, 0, 0, 0, 0, 0, 0, 0, 1, 0, 48]⟩) w1 := rd_string (P := Tryd.prog) hr 30 9 5 Tryd.underlying30 Tryd.underlying5 Tryd.underlying9; have HO := hide ho; clear ho hr)
  go_ret
  exact ⟨rfl, HO.out⟩
end
section
open Go.RowKit Go.Deep

theorem PrintR_any (w : World) (m : Mg) (hF : m.Fine) (hB : rightM m = true) : Calls Tryd.prog 41 #[.agg m.cells] w fun e w' => ∃ v, e = .returned v ∧ Rd w' [] v (ints .u8 (byts (printM m))) ∧ Only [] w w' := by
  obtain ⟨k, s, r, c, x4, x5, x6, x7, x8, x9, x10, x11, x12⟩ := m
  rcases kinds k with rfl | rfl | rfl | rfl | h
  · exact PrintR_1 w s r c x4 x5 x6 x7 x8 x9 x10 x11 x12 hF hB
  · exact PrintR_2 w s r c x4 x5 x6 x7 x8 x9 x10 x11 x12 hF hB
  · exact PrintR_3 w s r c x4 x5 x6 x7 x8 x9 x10 x11 x12 hF hB
  · exact PrintR_4 w s r c x4 x5 x6 x7 x8 x9 x10 x11 x12 hF hB
  · rw [right_none h] at hB; cases hB
set_option maxRecDepth 100000 in
set_option maxHeartbeats 12800000 in
theorem wp_heavy (w : World) (m : Mg) (hH0 : Hid (∀ W, Calls Tryd.prog 34 #[.agg m.cells, .int .i64 2000] W fun e w' => e = .returned (.bool true) ∧ Only [] W w')) :
    Calls Tryd.prog 8 #[.agg m.cells] w fun e w' => e = .returned (.bool true) ∧ Only [] w w' := by
  obtain ⟨k, s, r, c, x4, x5, x6, x7, x8, x9, x10, x11, x12⟩ := m
  unfold Mg.cells at hH0 ⊢
  simp only at hH0 ⊢
  have HMB := hide (Blk.new w 53 #[.int .i64 k, .int .u32 (s : Nat), .int .u32 (r : Nat), .int .u64 (c : Nat), .string x4, .string x5, .string x6, .string x7, .string x8, .string x9, .string x10, .string x11, .string x12])
  have HO := hide ((Only.refl [] w).alloc (.cells #[.int .i64 k, .int .u32 (s : Nat), .int .u32 (r : Nat), .int .u64 (c : Nat), .string x4, .string x5, .string x6, .string x7, .string x8, .string x9, .string x10, .string x11, .string x12] 53))
  have m0 := HMB.out.cell 0; have m1 := HMB.out.cell 1; have m2 := HMB.out.cell 2; have m3 := HMB.out.cell 3; have m4 := HMB.out.cell 4; have m5 := HMB.out.cell 5; have m6 := HMB.out.cell 6; have m7 := HMB.out.cell 7; have m8 := HMB.out.cell 8; have m9 := HMB.out.cell 9; have m10 := HMB.out.cell 10; have m11 := HMB.out.cell 11; have m12 := HMB.out.cell 12; simp at m0 m1 m2 m3 m4 m5 m6 m7 m8 m9 m10 m11 m12
  have HAW := hide (fun W => awake06 W)
  go_enter Tryd.func8, Tryd.ntmps8
  go_wp2_with (first | (go_at_call 33; refine (HAW.out _).mono ?_; rintro e w1 ⟨rfl, ho⟩; replace HMB := hide (HMB.out.only ho (by simp)); replace HO := hide (HO.out.trans ho); clear ho m0 m1 m2 m3 m4 m5 m6 m7 m8 m9 m10 m11 m12; have m0 := HMB.out.cell 0; have m1 := HMB.out.cell 1; have m2 := HMB.out.cell 2; have m3 := HMB.out.cell 3; have m4 := HMB.out.cell 4; have m5 := HMB.out.cell 5; have m6 := HMB.out.cell 6; have m7 := HMB.out.cell 7; have m8 := HMB.out.cell 8; have m9 := HMB.out.cell 9; have m10 := HMB.out.cell 10; have m11 := HMB.out.cell 11; have m12 := HMB.out.cell 12; simp at m0 m1 m2 m3 m4 m5 m6 m7 m8 m9 m10 m11 m12) | (go_at_call 34; refine (hH0.out _).mono ?_; rintro e w2 ⟨rfl, ho⟩;  replace HMB := hide (HMB.out.only ho (by simp)); replace HO := hide (HO.out.trans ho); clear ho m0 m1 m2 m3 m4 m5 m6 m7 m8 m9 m10 m11 m12; have m0 := HMB.out.cell 0; have m1 := HMB.out.cell 1; have m2 := HMB.out.cell 2; have m3 := HMB.out.cell 3; have m4 := HMB.out.cell 4; have m5 := HMB.out.cell 5; have m6 := HMB.out.cell 6; have m7 := HMB.out.cell 7; have m8 := HMB.out.cell 8; have m9 := HMB.out.cell 9; have m10 := HMB.out.cell 10; have m11 := HMB.out.cell 11; have m12 := HMB.out.cell 12; simp at m0 m1 m2 m3 m4 m5 m6 m7 m8 m9 m10 m11 m12))
  go_ret
  exact ⟨rfl, HO.out⟩
set_option maxRecDepth 100000 in
set_option maxHeartbeats 12800000 in
theorem wp_wrong (w : World) (m : Mg) (hF : m.Fine) (hR : rightM m = false) (htab : Tab w) (HH : Hid (∀ W, Calls Tryd.prog 34 #[.agg m.cells, .int .i64 2000] W fun e w' => e = .returned (.bool false) ∧ Only [] W w')) :
    Calls Tryd.prog 8 #[.agg m.cells] w fun e w' => e = .returned (.bool true) ∧ Only [] w w' := by
  have HPW := hide (fun W => Print_any W m hF)
  unfold PrintPost at HPW
  simp only [hR, Bool.false_eq_true, if_false] at HPW
  have HRR := hide (fun W => RightR_any W m hF)
  unfold RetB at HRR
  rw [hR] at HRR
  have HTM := hide (fun W => Terms_any W m hF)
  unfold TermsPost at HTM
  simp only [hR, Bool.false_eq_true, if_false] at HTM
  have hb0 := body_none (.inl hR)
  have hs0 : signedM m = ByteArray.empty := by unfold signedM; rw [if_pos hb0]
  have HBD := hide (fun W ht => Body_any W m hF ht)
  have HSD := hide (fun W ht => WSigned_any W m hF ht)
  unfold MakePost at HBD HSD
  rw [hb0] at HBD
  rw [hs0] at HSD
  have hes : (ByteArray.empty.toList == ([] : List UInt8)) = true := by kernel_rfl
  have hes2 : ByteArray.empty.toList.isEmpty = true := by kernel_rfl
  clear hF hR hb0 hs0
  obtain ⟨k, s, r, c, x4, x5, x6, x7, x8, x9, x10, x11, x12⟩ := m
  unfold Mg.cells at HPW HRR HTM HBD HSD HH ⊢
  simp only at HPW HRR HTM HBD HSD HH ⊢
  have HMB := hide (Blk.new w 53 #[.int .i64 k, .int .u32 (s : Nat), .int .u32 (r : Nat), .int .u64 (c : Nat), .string x4, .string x5, .string x6, .string x7, .string x8, .string x9, .string x10, .string x11, .string x12])
  have HO := hide ((Only.refl [] w).alloc (.cells #[.int .i64 k, .int .u32 (s : Nat), .int .u32 (r : Nat), .int .u64 (c : Nat), .string x4, .string x5, .string x6, .string x7, .string x8, .string x9, .string x10, .string x11, .string x12] 53))
  have m0 := HMB.out.cell 0; have m1 := HMB.out.cell 1; have m2 := HMB.out.cell 2; have m3 := HMB.out.cell 3; have m4 := HMB.out.cell 4; have m5 := HMB.out.cell 5; have m6 := HMB.out.cell 6; have m7 := HMB.out.cell 7; have m8 := HMB.out.cell 8; have m9 := HMB.out.cell 9; have m10 := HMB.out.cell 10; have m11 := HMB.out.cell 11; have m12 := HMB.out.cell 12; simp at m0 m1 m2 m3 m4 m5 m6 m7 m8 m9 m10 m11 m12
  have HAW := hide (fun W => awake06 W)
  have HT := hide (htab.only HO.out (by simp))
  clear htab
  go_enter Tryd.func8, Tryd.ntmps8
  go_wp2_with (first | (go_at_call 33; refine (HAW.out _).mono ?_; rintro e w1 ⟨rfl, ho⟩; replace HMB := hide (HMB.out.only ho (by simp)); replace HO := hide (HO.out.trans ho); replace HT := hide (HT.out.only ho (by simp)); clear ho m0 m1 m2 m3 m4 m5 m6 m7 m8 m9 m10 m11 m12; have m0 := HMB.out.cell 0; have m1 := HMB.out.cell 1; have m2 := HMB.out.cell 2; have m3 := HMB.out.cell 3; have m4 := HMB.out.cell 4; have m5 := HMB.out.cell 5; have m6 := HMB.out.cell 6; have m7 := HMB.out.cell 7; have m8 := HMB.out.cell 8; have m9 := HMB.out.cell 9; have m10 := HMB.out.cell 10; have m11 := HMB.out.cell 11; have m12 := HMB.out.cell 12; simp at m0 m1 m2 m3 m4 m5 m6 m7 m8 m9 m10 m11 m12) | (go_at_call 34; refine (HH.out _).mono ?_; rintro e w2 ⟨rfl, ho⟩; replace HT := hide (HT.out.only ho (by simp)); replace HMB := hide (HMB.out.only ho (by simp)); replace HO := hide (HO.out.trans ho); clear ho m0 m1 m2 m3 m4 m5 m6 m7 m8 m9 m10 m11 m12; have m0 := HMB.out.cell 0; have m1 := HMB.out.cell 1; have m2 := HMB.out.cell 2; have m3 := HMB.out.cell 3; have m4 := HMB.out.cell 4; have m5 := HMB.out.cell 5; have m6 := HMB.out.cell 6; have m7 := HMB.out.cell 7; have m8 := HMB.out.cell 8; have m9 := HMB.out.cell 9; have m10 := HMB.out.cell 10; have m11 := HMB.out.cell 11; have m12 := HMB.out.cell 12; simp at m0 m1 m2 m3 m4 m5 m6 m7 m8 m9 m10 m11 m12) | (go_at_call 35; refine (HPW.out _).mono ?_; rintro e w2 ⟨ho, rfl⟩; replace HT := hide (HT.out.only ho (by simp)); replace HMB := hide (HMB.out.only ho (by simp)); replace HO := hide (HO.out.trans ho); clear ho m0 m1 m2 m3 m4 m5 m6 m7 m8 m9 m10 m11 m12; have m0 := HMB.out.cell 0; have m1 := HMB.out.cell 1; have m2 := HMB.out.cell 2; have m3 := HMB.out.cell 3; have m4 := HMB.out.cell 4; have m5 := HMB.out.cell 5; have m6 := HMB.out.cell 6; have m7 := HMB.out.cell 7; have m8 := HMB.out.cell 8; have m9 := HMB.out.cell 9; have m10 := HMB.out.cell 10; have m11 := HMB.out.cell 11; have m12 := HMB.out.cell 12; simp at m0 m1 m2 m3 m4 m5 m6 m7 m8 m9 m10 m11 m12) | (go_at_call 36; refine (HRR.out _).mono ?_; rintro e w2 ⟨rfl, ho⟩; replace HT := hide (HT.out.only ho (by simp)); replace HMB := hide (HMB.out.only ho (by simp)); replace HO := hide (HO.out.trans ho); clear ho m0 m1 m2 m3 m4 m5 m6 m7 m8 m9 m10 m11 m12; have m0 := HMB.out.cell 0; have m1 := HMB.out.cell 1; have m2 := HMB.out.cell 2; have m3 := HMB.out.cell 3; have m4 := HMB.out.cell 4; have m5 := HMB.out.cell 5; have m6 := HMB.out.cell 6; have m7 := HMB.out.cell 7; have m8 := HMB.out.cell 8; have m9 := HMB.out.cell 9; have m10 := HMB.out.cell 10; have m11 := HMB.out.cell 11; have m12 := HMB.out.cell 12; simp at m0 m1 m2 m3 m4 m5 m6 m7 m8 m9 m10 m11 m12) | (go_at_call 37; refine (HTM.out _).mono ?_; rintro e w2 ⟨ho, rfl⟩; replace HT := hide (HT.out.only ho (by simp)); replace HMB := hide (HMB.out.only ho (by simp)); replace HO := hide (HO.out.trans ho); clear ho m0 m1 m2 m3 m4 m5 m6 m7 m8 m9 m10 m11 m12; have m0 := HMB.out.cell 0; have m1 := HMB.out.cell 1; have m2 := HMB.out.cell 2; have m3 := HMB.out.cell 3; have m4 := HMB.out.cell 4; have m5 := HMB.out.cell 5; have m6 := HMB.out.cell 6; have m7 := HMB.out.cell 7; have m8 := HMB.out.cell 8; have m9 := HMB.out.cell 9; have m10 := HMB.out.cell 10; have m11 := HMB.out.cell 11; have m12 := HMB.out.cell 12; simp at m0 m1 m2 m3 m4 m5 m6 m7 m8 m9 m10 m11 m12) | (go_at_call 38; refine (HBD.out _ HT.out).mono ?_; rintro e w2 ⟨rfl, ho⟩; replace HT := hide (HT.out.only ho (by simp)); replace HMB := hide (HMB.out.only ho (by simp)); replace HO := hide (HO.out.trans ho); clear ho m0 m1 m2 m3 m4 m5 m6 m7 m8 m9 m10 m11 m12; have m0 := HMB.out.cell 0; have m1 := HMB.out.cell 1; have m2 := HMB.out.cell 2; have m3 := HMB.out.cell 3; have m4 := HMB.out.cell 4; have m5 := HMB.out.cell 5; have m6 := HMB.out.cell 6; have m7 := HMB.out.cell 7; have m8 := HMB.out.cell 8; have m9 := HMB.out.cell 9; have m10 := HMB.out.cell 10; have m11 := HMB.out.cell 11; have m12 := HMB.out.cell 12; simp at m0 m1 m2 m3 m4 m5 m6 m7 m8 m9 m10 m11 m12) | (go_at_call 39; refine (HSD.out _ HT.out).mono ?_; rintro e w2 ⟨rfl, ho⟩; replace HT := hide (HT.out.only ho (by simp)); replace HMB := hide (HMB.out.only ho (by simp)); replace HO := hide (HO.out.trans ho); clear ho m0 m1 m2 m3 m4 m5 m6 m7 m8 m9 m10 m11 m12; have m0 := HMB.out.cell 0; have m1 := HMB.out.cell 1; have m2 := HMB.out.cell 2; have m3 := HMB.out.cell 3; have m4 := HMB.out.cell 4; have m5 := HMB.out.cell 5; have m6 := HMB.out.cell 6; have m7 := HMB.out.cell 7; have m8 := HMB.out.cell 8; have m9 := HMB.out.cell 9; have m10 := HMB.out.cell 10; have m11 := HMB.out.cell 11; have m12 := HMB.out.cell 12; simp at m0 m1 m2 m3 m4 m5 m6 m7 m8 m9 m10 m11 m12))
  go_ret
  exact ⟨rfl, HO.out⟩
set_option maxRecDepth 100000 in
set_option maxHeartbeats 12800000 in
theorem wp_right (w : World) (m : Mg) (hF : m.Fine) (hR : rightM m = true) (htab : Tab w) (HH : Hid (∀ W, Calls Tryd.prog 34 #[.agg m.cells, .int .i64 2000] W fun e w' => e = .returned (.bool false) ∧ Only [] W w')) :
    Calls Tryd.prog 8 #[.agg m.cells] w fun e w' => e = .returned (.bool true) ∧ Only [] w w' := by
  have hk : 1 ≤ m.k ∧ m.k ≤ 4 := by
    by_cases h : 1 ≤ m.k ∧ m.k ≤ 4
    · exact h
    · rw [right_none h] at hR; cases hR
  have HPW := hide (fun W => Print_any W m hF)
  unfold PrintPost at HPW
  simp only [hR, if_true] at HPW
  have HRR := hide (fun W => RightR_any W m hF)
  unfold RetB at HRR
  rw [hR] at HRR
  have HTM := hide (fun W => Terms_any W m hF)
  unfold TermsPost at HTM
  simp only [hR, if_true] at HTM
  have HTR := hide (fun W => TermsR_any W m hk)
  unfold TermsRPost at HTR
  have HPR := hide (fun W => PrintR_any W m hF hR)
  have HRD := hide (fun W v h => Read_any W v (printM m) (print_len m hR) h)
  unfold ReadPostW at HRD
  rw [read_print m hF hR] at HRD
  have HBD := hide (fun W ht => Body_any W m hF ht)
  have HBR := hide (fun W => BodyR_any W m hF)
  have HSD := hide (fun W ht => WSigned_any W m hF ht)
  have HSR := hide (fun W => WSignedR_any W m hF)
  unfold MakePost at HBD HBR HSD HSR
  have hq : ∀ W : World, (binOp .eql 53 (.agg m.cells) (.agg m.cells)).run Tryd.prog W = .ok (.bool true) W := fun W => by
    have h := msg_eql m m W
    rw [(eqM_iff m m).2 rfl] at h
    exact h
  have HTL := hide (show (textsM m).length ≤ maxLen by
    unfold textsM maxLen
    split
    · simp
    · split
      · simp
      · split <;> simp)
  generalize bodyM m = bd at *
  generalize signedM m = sg at *
  generalize printM m = pm at *
  generalize textsM m = tl at *
  clear hF hR hk
  obtain ⟨k, s, r, c, x4, x5, x6, x7, x8, x9, x10, x11, x12⟩ := m
  unfold Mg.cells at HPW HRR HTM HTR HPR HRD HBD HBR HSD HSR HH hq ⊢
  simp only at HPW HRR HTM HTR HPR HRD HBD HBR HSD HSR HH hq ⊢
  have HMB := hide (Blk.new w 53 #[.int .i64 k, .int .u32 (s : Nat), .int .u32 (r : Nat), .int .u64 (c : Nat), .string x4, .string x5, .string x6, .string x7, .string x8, .string x9, .string x10, .string x11, .string x12])
  have HO := hide ((Only.refl [] w).alloc (.cells #[.int .i64 k, .int .u32 (s : Nat), .int .u32 (r : Nat), .int .u64 (c : Nat), .string x4, .string x5, .string x6, .string x7, .string x8, .string x9, .string x10, .string x11, .string x12] 53))
  have m0 := HMB.out.cell 0; have m1 := HMB.out.cell 1; have m2 := HMB.out.cell 2; have m3 := HMB.out.cell 3; have m4 := HMB.out.cell 4; have m5 := HMB.out.cell 5; have m6 := HMB.out.cell 6; have m7 := HMB.out.cell 7; have m8 := HMB.out.cell 8; have m9 := HMB.out.cell 9; have m10 := HMB.out.cell 10; have m11 := HMB.out.cell 11; have m12 := HMB.out.cell 12; simp at m0 m1 m2 m3 m4 m5 m6 m7 m8 m9 m10 m11 m12
  have HAW := hide (fun W => awake06 W)
  have HT := hide (htab.only HO.out (by simp))
  clear htab
  go_enter Tryd.func8, Tryd.ntmps8
  go_upto_region 9 with (first
    | (go_at_call 33; refine (HAW.out _).mono ?_; rintro e w1 ⟨rfl, ho⟩; replace HMB := hide (HMB.out.only ho (by simp)); replace HO := hide (HO.out.trans ho); replace HT := hide (HT.out.only ho (by simp)); clear ho m0 m1 m2 m3 m4 m5 m6 m7 m8 m9 m10 m11 m12; have m0 := HMB.out.cell 0; have m1 := HMB.out.cell 1; have m2 := HMB.out.cell 2; have m3 := HMB.out.cell 3; have m4 := HMB.out.cell 4; have m5 := HMB.out.cell 5; have m6 := HMB.out.cell 6; have m7 := HMB.out.cell 7; have m8 := HMB.out.cell 8; have m9 := HMB.out.cell 9; have m10 := HMB.out.cell 10; have m11 := HMB.out.cell 11; have m12 := HMB.out.cell 12; simp at m0 m1 m2 m3 m4 m5 m6 m7 m8 m9 m10 m11 m12)
    | (go_at_call 34; refine (HH.out _).mono ?_; rintro e w2 ⟨rfl, ho⟩; replace HT := hide (HT.out.only ho (by simp)); replace HMB := hide (HMB.out.only ho (by simp)); replace HO := hide (HO.out.trans ho); clear ho m0 m1 m2 m3 m4 m5 m6 m7 m8 m9 m10 m11 m12; have m0 := HMB.out.cell 0; have m1 := HMB.out.cell 1; have m2 := HMB.out.cell 2; have m3 := HMB.out.cell 3; have m4 := HMB.out.cell 4; have m5 := HMB.out.cell 5; have m6 := HMB.out.cell 6; have m7 := HMB.out.cell 7; have m8 := HMB.out.cell 8; have m9 := HMB.out.cell 9; have m10 := HMB.out.cell 10; have m11 := HMB.out.cell 11; have m12 := HMB.out.cell 12; simp at m0 m1 m2 m3 m4 m5 m6 m7 m8 m9 m10 m11 m12)
    | (go_at_call 35; refine (HPW.out _).mono ?_; rintro e w2 ⟨ho, v, rfl, hrd⟩; obtain ⟨Ap, cp, rfl, _, _⟩ := hrd.formb; have HP1 := hide hrd; replace HMB := hide (HMB.out.only ho (by simp)); replace HT := hide (HT.out.only ho (by simp)); replace HO := hide (HO.out.trans ho); clear ho hrd m0 m1 m2 m3 m4 m5 m6 m7 m8 m9 m10 m11 m12; have m0 := HMB.out.cell 0; have m1 := HMB.out.cell 1; have m2 := HMB.out.cell 2; have m3 := HMB.out.cell 3; have m4 := HMB.out.cell 4; have m5 := HMB.out.cell 5; have m6 := HMB.out.cell 6; have m7 := HMB.out.cell 7; have m8 := HMB.out.cell 8; have m9 := HMB.out.cell 9; have m10 := HMB.out.cell 10; have m11 := HMB.out.cell 11; have m12 := HMB.out.cell 12; simp at m0 m1 m2 m3 m4 m5 m6 m7 m8 m9 m10 m11 m12)
    | (go_at_call 36; refine (HRR.out _).mono ?_; rintro e w3 ⟨rfl, ho⟩; replace HP1 := hide (HP1.out.only ho (by simp)); replace HMB := hide (HMB.out.only ho (by simp)); replace HT := hide (HT.out.only ho (by simp)); replace HO := hide (HO.out.trans ho); clear ho m0 m1 m2 m3 m4 m5 m6 m7 m8 m9 m10 m11 m12; have m0 := HMB.out.cell 0; have m1 := HMB.out.cell 1; have m2 := HMB.out.cell 2; have m3 := HMB.out.cell 3; have m4 := HMB.out.cell 4; have m5 := HMB.out.cell 5; have m6 := HMB.out.cell 6; have m7 := HMB.out.cell 7; have m8 := HMB.out.cell 8; have m9 := HMB.out.cell 9; have m10 := HMB.out.cell 10; have m11 := HMB.out.cell 11; have m12 := HMB.out.cell 12; simp at m0 m1 m2 m3 m4 m5 m6 m7 m8 m9 m10 m11 m12)
    | (go_at_call 40; refine (HRD.out _ _ HP1.out).mono ?_; rintro e w4 ⟨rfl, ho⟩; have HNB := hide (Blk.new w4 53 #[.int .i64 k, .int .u32 (s : Nat), .int .u32 (r : Nat), .int .u64 (c : Nat), .string x4, .string x5, .string x6, .string x7, .string x8, .string x9, .string x10, .string x11, .string x12]); replace HP1 := hide ((HP1.out.only ho (by simp)).only ((Only.refl [] w4).alloc (.cells #[.int .i64 k, .int .u32 (s : Nat), .int .u32 (r : Nat), .int .u64 (c : Nat), .string x4, .string x5, .string x6, .string x7, .string x8, .string x9, .string x10, .string x11, .string x12] 53)) (by simp)); replace HMB := hide ((HMB.out.only ho (by simp)).alloc (.cells #[.int .i64 k, .int .u32 (s : Nat), .int .u32 (r : Nat), .int .u64 (c : Nat), .string x4, .string x5, .string x6, .string x7, .string x8, .string x9, .string x10, .string x11, .string x12] 53)); replace HT := hide (HT.out.only (ho.alloc (.cells #[.int .i64 k, .int .u32 (s : Nat), .int .u32 (r : Nat), .int .u64 (c : Nat), .string x4, .string x5, .string x6, .string x7, .string x8, .string x9, .string x10, .string x11, .string x12] 53)) (by simp)); replace HO := hide ((HO.out.trans ho).alloc (.cells #[.int .i64 k, .int .u32 (s : Nat), .int .u32 (r : Nat), .int .u64 (c : Nat), .string x4, .string x5, .string x6, .string x7, .string x8, .string x9, .string x10, .string x11, .string x12] 53)); clear ho m0 m1 m2 m3 m4 m5 m6 m7 m8 m9 m10 m11 m12))
  generalize (w4.alloc (.cells #[.int .i64 k, .int .u32 (s : Nat), .int .u32 (r : Nat), .int .u64 (c : Nat), .string x4, .string x5, .string x6, .string x7, .string x8, .string x9, .string x10, .string x11, .string x12] 53)) = wb at *
  refine wp_region_held_drew (S := fun W => Only [] wb W) (by kernel_rfl) (by exact (Only.refl [] wb).drew) (fun hHeld => ?_)
  refine wpAnyH_take (i := 0) (v := ?_) rfl (by kernel_rfl) (by kernel_rfl) (by kernel_rfl) (fun _ _ _ h => h) (Or.inl ⟨by rfl, ?_⟩) (by assumption) ?_
  rotate_left
  · (intro w hSw; (try dsimp only at hSw); go_simp; try with_reducible rfl)
  try simp only [List.getElem_toArray, List.getElem_cons_succ, List.getElem_cons_zero, Act.put, List.setIfInBounds_toArray, List.set_cons_zero, List.set_cons_succ]
  refine wpAnyH_take (i := 1) (v := ?_) rfl (by kernel_rfl) (by kernel_rfl) (by kernel_rfl) (fun _ _ _ h => h) (Or.inl ⟨by rfl, ?_⟩) (by assumption) ?_
  rotate_left
  · (intro w hSw; (try dsimp only at hSw); go_simp; try with_reducible rfl)
  try simp only [List.getElem_toArray, List.getElem_cons_succ, List.getElem_cons_zero, Act.put, List.setIfInBounds_toArray, List.set_cons_zero, List.set_cons_succ]
  refine wpAnyH_take (i := 2) (v := ?_) rfl (by kernel_rfl) (by kernel_rfl) (by kernel_rfl) (fun _ _ _ h => h) (Or.inl ⟨by rfl, ?_⟩) (by assumption) ?_
  rotate_left
  · (intro w hSw; (try dsimp only at hSw); go_simp; try with_reducible rfl)
  try simp only [List.getElem_toArray, List.getElem_cons_succ, List.getElem_cons_zero, Act.put, List.setIfInBounds_toArray, List.set_cons_zero, List.set_cons_succ]
  refine wpAnyH_take (i := 3) (v := ?_) rfl (by kernel_rfl) (by kernel_rfl) (by kernel_rfl) (fun _ _ _ h => h) (Or.inl ⟨by rfl, ?_⟩) (by assumption) ?_
  rotate_left
  · (intro w hSw; (try dsimp only at hSw); go_simp; try with_reducible rfl)
  try simp only [List.getElem_toArray, List.getElem_cons_succ, List.getElem_cons_zero, Act.put, List.setIfInBounds_toArray, List.set_cons_zero, List.set_cons_succ]
  refine wpAnyH_take (i := 4) (v := ?_) rfl (by kernel_rfl) (by kernel_rfl) (by kernel_rfl) (fun _ _ _ h => h) (Or.inl ⟨by rfl, ?_⟩) (by assumption) ?_
  rotate_left
  · (intro w hSw; (try dsimp only at hSw); have hcp := rd_string (P := Tryd.prog) (HP1.out.only hSw (by simp)) 30 9 5 Tryd.underlying30 Tryd.underlying5 Tryd.underlying9; go_simp; try with_reducible rfl)
  try simp only [List.getElem_toArray, List.getElem_cons_succ, List.getElem_cons_zero, Act.put, List.setIfInBounds_toArray, List.set_cons_zero, List.set_cons_succ]
  refine wpAnyH_take (i := 5) (v := ?_) rfl (by kernel_rfl) (by kernel_rfl) (by kernel_rfl) (fun _ _ _ h => h) (Or.inl ⟨by rfl, ?_⟩) (by assumption) ?_
  rotate_left
  · (intro w hSw; (try dsimp only at hSw); have HMw := HMB.out.only hSw (by simp); have m0 := (hide HMw).out.cell 0; have m1 := (hide HMw).out.cell 1; have m2 := (hide HMw).out.cell 2; have m3 := (hide HMw).out.cell 3; have m4 := (hide HMw).out.cell 4; have m5 := (hide HMw).out.cell 5; have m6 := (hide HMw).out.cell 6; have m7 := (hide HMw).out.cell 7; have m8 := (hide HMw).out.cell 8; have m9 := (hide HMw).out.cell 9; have m10 := (hide HMw).out.cell 10; have m11 := (hide HMw).out.cell 11; have m12 := (hide HMw).out.cell 12; simp at m0 m1 m2 m3 m4 m5 m6 m7 m8 m9 m10 m11 m12; go_simp; try with_reducible rfl)
  try simp only [List.getElem_toArray, List.getElem_cons_succ, List.getElem_cons_zero, Act.put, List.setIfInBounds_toArray, List.set_cons_zero, List.set_cons_succ]
  refine wpAnyH_ready (rs := [6]) (by kernel_rfl) (by simp) ?_
  refine AllReadyH.cons rfl (fun K hK => ?_) AllReadyH.nil
  go_simp
  (go_at_call 41; refine (HPR.out _).mono ?_; rintro e wz ⟨v2, rfl, hrd, ho⟩; obtain ⟨Aq, cq, rfl, _, _⟩ := hrd.formb; have HP2 := hide hrd; clear hrd)
  refine hK.out _ _ (by exact hHeld.trans ho) (fun hHeld => ?_)
  clear hK K ho
  try simp only [List.getElem_toArray, List.getElem_cons_succ, List.getElem_cons_zero, Act.put, List.setIfInBounds_toArray, List.set_cons_zero, List.set_cons_succ]
  have hcq := rd_string (P := Tryd.prog) HP2.out 30 9 5 Tryd.underlying30 Tryd.underlying5 Tryd.underlying9
  refine wpAnyH_ready (rs := [7]) (by kernel_rfl) (by simp) ?_
  refine AllReadyH.cons rfl (fun K hK => ?_) AllReadyH.nil
  go_simp
  refine hK.out _ _ (by exact hHeld) (fun hHeld => ?_)
  clear hK K
  try simp only [List.getElem_toArray, List.getElem_cons_succ, List.getElem_cons_zero, Act.put, List.setIfInBounds_toArray, List.set_cons_zero, List.set_cons_succ]
  refine wpAnyH_take (i := 8) (v := ?_) rfl (by kernel_rfl) (by kernel_rfl) (by kernel_rfl) (fun _ _ _ h => h) (Or.inl ⟨by rfl, ?_⟩) (by assumption) ?_
  rotate_left
  · (intro w hSw; (try dsimp only at hSw); go_simp; try with_reducible rfl)
  try simp only [List.getElem_toArray, List.getElem_cons_succ, List.getElem_cons_zero, Act.put, List.setIfInBounds_toArray, List.set_cons_zero, List.set_cons_succ]
  refine wpAnyH_take (i := 9) (v := ?_) rfl (by kernel_rfl) (by kernel_rfl) (by kernel_rfl) (fun _ _ _ h => h) (Or.inl ⟨by rfl, ?_⟩) (by assumption) ?_
  rotate_left
  · (intro w hSw; (try dsimp only at hSw); go_simp; try with_reducible rfl)
  try simp only [List.getElem_toArray, List.getElem_cons_succ, List.getElem_cons_zero, Act.put, List.setIfInBounds_toArray, List.set_cons_zero, List.set_cons_succ]
  refine wpAnyH_take (i := 10) (v := ?_) rfl (by kernel_rfl) (by kernel_rfl) (by kernel_rfl) (fun _ _ _ h => h) (Or.inl ⟨by rfl, ?_⟩) (by assumption) ?_
  rotate_left
  · (intro w hSw; (try dsimp only at hSw); go_simp; try with_reducible rfl)
  try simp only [List.getElem_toArray, List.getElem_cons_succ, List.getElem_cons_zero, Act.put, List.setIfInBounds_toArray, List.set_cons_zero, List.set_cons_succ]
  refine wpAnyH_take (i := 11) (v := ?_) rfl (by kernel_rfl) (by kernel_rfl) (by kernel_rfl) (fun _ _ _ h => h) (Or.inl ⟨by rfl, ?_⟩) (by assumption) ?_
  rotate_left
  · (intro w hSw; (try dsimp only at hSw); go_simp; try with_reducible rfl)
  try simp only [List.getElem_toArray, List.getElem_cons_succ, List.getElem_cons_zero, Act.put, List.setIfInBounds_toArray, List.set_cons_zero, List.set_cons_succ]
  refine wpAnyH_take (i := 12) (v := ?_) rfl (by kernel_rfl) (by kernel_rfl) (by kernel_rfl) (fun _ _ _ h => h) (Or.inl ⟨by rfl, ?_⟩) (by assumption) ?_
  rotate_left
  · (intro w hSw; (try dsimp only at hSw); go_simp; try with_reducible rfl)
  try simp only [List.getElem_toArray, List.getElem_cons_succ, List.getElem_cons_zero, Act.put, List.setIfInBounds_toArray, List.set_cons_zero, List.set_cons_succ]
  refine wpAnyH_take (i := 13) (v := ?_) rfl (by kernel_rfl) (by kernel_rfl) (by kernel_rfl) (fun _ _ _ h => h) (Or.inl ⟨by rfl, ?_⟩) (by assumption) ?_
  rotate_left
  · (intro w hSw; (try dsimp only at hSw); go_simp; try with_reducible rfl)
  try simp only [List.getElem_toArray, List.getElem_cons_succ, List.getElem_cons_zero, Act.put, List.setIfInBounds_toArray, List.set_cons_zero, List.set_cons_succ]
  refine wpAnyH_take (i := 14) (v := ?_) rfl (by kernel_rfl) (by kernel_rfl) (by kernel_rfl) (fun _ _ _ h => h) (Or.inl ⟨by rfl, ?_⟩) (by assumption) ?_
  rotate_left
  · (intro w hSw; (try dsimp only at hSw); go_simp; try with_reducible rfl)
  try simp only [List.getElem_toArray, List.getElem_cons_succ, List.getElem_cons_zero, Act.put, List.setIfInBounds_toArray, List.set_cons_zero, List.set_cons_succ]
  refine wpAnyH_take (i := 15) (v := ?_) rfl (by kernel_rfl) (by kernel_rfl) (by kernel_rfl) (fun _ _ _ h => h) (Or.inl ⟨by rfl, ?_⟩) (by assumption) ?_
  rotate_left
  · (intro w hSw; (try dsimp only at hSw); have HNw := HNB.out.only hSw (by simp); have n0 := (hide HNw).out.cell 0; have n1 := (hide HNw).out.cell 1; have n2 := (hide HNw).out.cell 2; have n3 := (hide HNw).out.cell 3; have n4 := (hide HNw).out.cell 4; have n5 := (hide HNw).out.cell 5; have n6 := (hide HNw).out.cell 6; have n7 := (hide HNw).out.cell 7; have n8 := (hide HNw).out.cell 8; have n9 := (hide HNw).out.cell 9; have n10 := (hide HNw).out.cell 10; have n11 := (hide HNw).out.cell 11; have n12 := (hide HNw).out.cell 12; simp at n0 n1 n2 n3 n4 n5 n6 n7 n8 n9 n10 n11 n12; go_simp; try with_reducible rfl)
  try simp only [List.getElem_toArray, List.getElem_cons_succ, List.getElem_cons_zero, Act.put, List.setIfInBounds_toArray, List.set_cons_zero, List.set_cons_succ]
  refine wpAnyH_take (i := 16) (v := ?_) rfl (by kernel_rfl) (by kernel_rfl) (by kernel_rfl) (fun _ _ _ h => h) (Or.inl ⟨by rfl, ?_⟩) (by assumption) ?_
  rotate_left
  · (intro w hSw; (try dsimp only at hSw); have HMw := HMB.out.only hSw (by simp); have m0 := (hide HMw).out.cell 0; have m1 := (hide HMw).out.cell 1; have m2 := (hide HMw).out.cell 2; have m3 := (hide HMw).out.cell 3; have m4 := (hide HMw).out.cell 4; have m5 := (hide HMw).out.cell 5; have m6 := (hide HMw).out.cell 6; have m7 := (hide HMw).out.cell 7; have m8 := (hide HMw).out.cell 8; have m9 := (hide HMw).out.cell 9; have m10 := (hide HMw).out.cell 10; have m11 := (hide HMw).out.cell 11; have m12 := (hide HMw).out.cell 12; simp at m0 m1 m2 m3 m4 m5 m6 m7 m8 m9 m10 m11 m12; go_simp; try with_reducible rfl)
  try simp only [List.getElem_toArray, List.getElem_cons_succ, List.getElem_cons_zero, Act.put, List.setIfInBounds_toArray, List.set_cons_zero, List.set_cons_succ]
  refine wpAnyH_take (i := 17) (v := ?_) rfl (by kernel_rfl) (by kernel_rfl) (by kernel_rfl) (fun _ _ _ h => h) (Or.inl ⟨by rfl, ?_⟩) (by assumption) ?_
  rotate_left
  · (intro w hSw; (try dsimp only at hSw); go_simp; try with_reducible rfl)
  try simp only [List.getElem_toArray, List.getElem_cons_succ, List.getElem_cons_zero, Act.put, List.setIfInBounds_toArray, List.set_cons_zero, List.set_cons_succ]
  refine wpAnyH_take (i := 18) (v := ?_) rfl (by kernel_rfl) (by kernel_rfl) (by kernel_rfl) (fun _ _ _ h => h) (Or.inl ⟨by rfl, ?_⟩) (by assumption) ?_
  rotate_left
  · (intro w hSw; (try dsimp only at hSw); go_simp; try with_reducible rfl)
  try simp only [List.getElem_toArray, List.getElem_cons_succ, List.getElem_cons_zero, Act.put, List.setIfInBounds_toArray, List.set_cons_zero, List.set_cons_succ]
  refine wpAnyH_take (i := 19) (v := ?_) rfl (by kernel_rfl) (by kernel_rfl) (by kernel_rfl) (fun _ _ _ h => h) (Or.inl ⟨by rfl, ?_⟩) (by assumption) ?_
  rotate_left
  · (intro w hSw; (try dsimp only at hSw); go_simp; try with_reducible rfl)
  try simp only [List.getElem_toArray, List.getElem_cons_succ, List.getElem_cons_zero, Act.put, List.setIfInBounds_toArray, List.set_cons_zero, List.set_cons_succ]
  refine wpAnyH_take (i := 20) (v := ?_) rfl (by kernel_rfl) (by kernel_rfl) (by kernel_rfl) (fun _ _ _ h => h) (Or.inl ⟨by rfl, ?_⟩) (by assumption) ?_
  rotate_left
  · (intro w hSw; (try dsimp only at hSw); have HMw := HMB.out.only hSw (by simp); have m0 := (hide HMw).out.cell 0; have m1 := (hide HMw).out.cell 1; have m2 := (hide HMw).out.cell 2; have m3 := (hide HMw).out.cell 3; have m4 := (hide HMw).out.cell 4; have m5 := (hide HMw).out.cell 5; have m6 := (hide HMw).out.cell 6; have m7 := (hide HMw).out.cell 7; have m8 := (hide HMw).out.cell 8; have m9 := (hide HMw).out.cell 9; have m10 := (hide HMw).out.cell 10; have m11 := (hide HMw).out.cell 11; have m12 := (hide HMw).out.cell 12; simp at m0 m1 m2 m3 m4 m5 m6 m7 m8 m9 m10 m11 m12; go_simp; try with_reducible rfl)
  try simp only [List.getElem_toArray, List.getElem_cons_succ, List.getElem_cons_zero, Act.put, List.setIfInBounds_toArray, List.set_cons_zero, List.set_cons_succ]
  refine wpAnyH_take (i := 22) (v := ?_) rfl (by kernel_rfl) (by kernel_rfl) (by kernel_rfl) (fun _ _ _ h => h) (Or.inl ⟨by rfl, ?_⟩) (by assumption) ?_
  rotate_left
  · (intro w hSw; (try dsimp only at hSw); have HMw := HMB.out.only hSw (by simp); have m0 := (hide HMw).out.cell 0; have m1 := (hide HMw).out.cell 1; have m2 := (hide HMw).out.cell 2; have m3 := (hide HMw).out.cell 3; have m4 := (hide HMw).out.cell 4; have m5 := (hide HMw).out.cell 5; have m6 := (hide HMw).out.cell 6; have m7 := (hide HMw).out.cell 7; have m8 := (hide HMw).out.cell 8; have m9 := (hide HMw).out.cell 9; have m10 := (hide HMw).out.cell 10; have m11 := (hide HMw).out.cell 11; have m12 := (hide HMw).out.cell 12; simp at m0 m1 m2 m3 m4 m5 m6 m7 m8 m9 m10 m11 m12; go_simp; try with_reducible rfl)
  try simp only [List.getElem_toArray, List.getElem_cons_succ, List.getElem_cons_zero, Act.put, List.setIfInBounds_toArray, List.set_cons_zero, List.set_cons_succ]
  refine wpAnyH_ready (rs := [21]) (by kernel_rfl) (by simp) ?_
  refine AllReadyH.cons rfl (fun K hK => ?_) AllReadyH.nil
  go_simp
  (go_at_call 37; refine (HTM.out _).mono ?_; rintro e wz ⟨ho, v3, rfl, hrd⟩; obtain ⟨At, ct, rfl, _, _⟩ := hrd.form; have HL1 := hide hrd; clear hrd)
  refine hK.out _ _ (by exact hHeld.trans ho) (fun hHeld => ?_)
  clear hK K ho
  try simp only [List.getElem_toArray, List.getElem_cons_succ, List.getElem_cons_zero, Act.put, List.setIfInBounds_toArray, List.set_cons_zero, List.set_cons_succ]
  refine wpAnyH_ready (rs := [23]) (by kernel_rfl) (by simp) ?_
  refine AllReadyH.cons rfl (fun K hK => ?_) AllReadyH.nil
  go_simp
  (go_at_call 42; refine (HTR.out _).mono ?_; rintro e wz ⟨gt, rfl, hgt, hbt, ho⟩; have HL2 := hide (blk_strs hbt [] (by simp) HTL.out); replace HL1 := hide (HL1.out.only ho (by simp)); clear hgt hbt)
  refine hK.out _ _ (by exact hHeld.trans ho) (fun hHeld => ?_)
  clear hK K ho
  try simp only [List.getElem_toArray, List.getElem_cons_succ, List.getElem_cons_zero, Act.put, List.setIfInBounds_toArray, List.set_cons_zero, List.set_cons_succ]
  refine wpAnyH_ready (rs := [24]) (by kernel_rfl) (by simp) ?_
  refine AllReadyH.cons rfl (fun K hK => ?_) AllReadyH.nil
  go_simp
  (go_at_call 19; refine (same_refl _ _ tl _ HL1.out HL2.out).mono ?_; rintro e wz ⟨rfl, ho⟩)
  refine hK.out _ _ (by exact hHeld.trans ho) (fun hHeld => ?_)
  clear hK K ho
  try simp only [List.getElem_toArray, List.getElem_cons_succ, List.getElem_cons_zero, Act.put, List.setIfInBounds_toArray, List.set_cons_zero, List.set_cons_succ]
  refine wpAnyH_take (i := 25) (v := ?_) rfl (by kernel_rfl) (by kernel_rfl) (by kernel_rfl) (fun _ _ _ h => h) (Or.inl ⟨by rfl, ?_⟩) (by assumption) ?_
  rotate_left
  · (intro w hSw; (try dsimp only at hSw); go_simp; try with_reducible rfl)
  try simp only [List.getElem_toArray, List.getElem_cons_succ, List.getElem_cons_zero, Act.put, List.setIfInBounds_toArray, List.set_cons_zero, List.set_cons_succ]
  refine wpAnyH_take (i := 26) (v := ?_) rfl (by kernel_rfl) (by kernel_rfl) (by kernel_rfl) (fun _ _ _ h => h) (Or.inl ⟨by rfl, ?_⟩) (by assumption) ?_
  rotate_left
  · (intro w hSw; (try dsimp only at hSw); go_simp; try with_reducible rfl)
  try simp only [List.getElem_toArray, List.getElem_cons_succ, List.getElem_cons_zero, Act.put, List.setIfInBounds_toArray, List.set_cons_zero, List.set_cons_succ]
  refine wpAnyH_take (i := 27) (v := ?_) rfl (by kernel_rfl) (by kernel_rfl) (by kernel_rfl) (fun _ _ _ h => h) (Or.inl ⟨by rfl, ?_⟩) (by assumption) ?_
  rotate_left
  · (intro w hSw; (try dsimp only at hSw); have HMw := HMB.out.only hSw (by simp); have m0 := (hide HMw).out.cell 0; have m1 := (hide HMw).out.cell 1; have m2 := (hide HMw).out.cell 2; have m3 := (hide HMw).out.cell 3; have m4 := (hide HMw).out.cell 4; have m5 := (hide HMw).out.cell 5; have m6 := (hide HMw).out.cell 6; have m7 := (hide HMw).out.cell 7; have m8 := (hide HMw).out.cell 8; have m9 := (hide HMw).out.cell 9; have m10 := (hide HMw).out.cell 10; have m11 := (hide HMw).out.cell 11; have m12 := (hide HMw).out.cell 12; simp at m0 m1 m2 m3 m4 m5 m6 m7 m8 m9 m10 m11 m12; go_simp; try with_reducible rfl)
  try simp only [List.getElem_toArray, List.getElem_cons_succ, List.getElem_cons_zero, Act.put, List.setIfInBounds_toArray, List.set_cons_zero, List.set_cons_succ]
  refine wpAnyH_take (i := 29) (v := ?_) rfl (by kernel_rfl) (by kernel_rfl) (by kernel_rfl) (fun _ _ _ h => h) (Or.inl ⟨by rfl, ?_⟩) (by assumption) ?_
  rotate_left
  · (intro w hSw; (try dsimp only at hSw); have HMw := HMB.out.only hSw (by simp); have m0 := (hide HMw).out.cell 0; have m1 := (hide HMw).out.cell 1; have m2 := (hide HMw).out.cell 2; have m3 := (hide HMw).out.cell 3; have m4 := (hide HMw).out.cell 4; have m5 := (hide HMw).out.cell 5; have m6 := (hide HMw).out.cell 6; have m7 := (hide HMw).out.cell 7; have m8 := (hide HMw).out.cell 8; have m9 := (hide HMw).out.cell 9; have m10 := (hide HMw).out.cell 10; have m11 := (hide HMw).out.cell 11; have m12 := (hide HMw).out.cell 12; simp at m0 m1 m2 m3 m4 m5 m6 m7 m8 m9 m10 m11 m12; go_simp; try with_reducible rfl)
  try simp only [List.getElem_toArray, List.getElem_cons_succ, List.getElem_cons_zero, Act.put, List.setIfInBounds_toArray, List.set_cons_zero, List.set_cons_succ]
  refine wpAnyH_ready (rs := [28]) (by kernel_rfl) (by simp) ?_
  refine AllReadyH.cons rfl (fun K hK => ?_) AllReadyH.nil
  go_simp
  (go_at_call 38; refine (HBD.out _ (HT.out.only hHeld (by simp))).mono ?_; rintro e wz ⟨rfl, ho⟩)
  refine hK.out _ _ (by exact hHeld.trans ho) (fun hHeld => ?_)
  clear hK K ho
  try simp only [List.getElem_toArray, List.getElem_cons_succ, List.getElem_cons_zero, Act.put, List.setIfInBounds_toArray, List.set_cons_zero, List.set_cons_succ]
  refine wpAnyH_ready (rs := [30]) (by kernel_rfl) (by simp) ?_
  refine AllReadyH.cons rfl (fun K hK => ?_) AllReadyH.nil
  go_simp
  (go_at_call 43; refine (HBR.out _).mono ?_; rintro e wz ⟨rfl, ho⟩)
  refine hK.out _ _ (by exact hHeld.trans ho) (fun hHeld => ?_)
  clear hK K ho
  try simp only [List.getElem_toArray, List.getElem_cons_succ, List.getElem_cons_zero, Act.put, List.setIfInBounds_toArray, List.set_cons_zero, List.set_cons_succ]
  refine wpAnyH_take (i := 31) (v := ?_) rfl (by kernel_rfl) (by kernel_rfl) (by kernel_rfl) (fun _ _ _ h => h) (Or.inl ⟨by rfl, ?_⟩) (by assumption) ?_
  rotate_left
  · (intro w hSw; (try dsimp only at hSw); go_simp; try with_reducible rfl)
  try simp only [List.getElem_toArray, List.getElem_cons_succ, List.getElem_cons_zero, Act.put, List.setIfInBounds_toArray, List.set_cons_zero, List.set_cons_succ]
  refine wpAnyH_take (i := 32) (v := ?_) rfl (by kernel_rfl) (by kernel_rfl) (by kernel_rfl) (fun _ _ _ h => h) (Or.inl ⟨by rfl, ?_⟩) (by assumption) ?_
  rotate_left
  · (intro w hSw; (try dsimp only at hSw); go_simp; try with_reducible rfl)
  try simp only [List.getElem_toArray, List.getElem_cons_succ, List.getElem_cons_zero, Act.put, List.setIfInBounds_toArray, List.set_cons_zero, List.set_cons_succ]
  refine wpAnyH_take (i := 33) (v := ?_) rfl (by kernel_rfl) (by kernel_rfl) (by kernel_rfl) (fun _ _ _ h => h) (Or.inl ⟨by rfl, ?_⟩) (by assumption) ?_
  rotate_left
  · (intro w hSw; (try dsimp only at hSw); go_simp; try with_reducible rfl)
  try simp only [List.getElem_toArray, List.getElem_cons_succ, List.getElem_cons_zero, Act.put, List.setIfInBounds_toArray, List.set_cons_zero, List.set_cons_succ]
  refine wpAnyH_take (i := 34) (v := ?_) rfl (by kernel_rfl) (by kernel_rfl) (by kernel_rfl) (fun _ _ _ h => h) (Or.inl ⟨by rfl, ?_⟩) (by assumption) ?_
  rotate_left
  · (intro w hSw; (try dsimp only at hSw); have HMw := HMB.out.only hSw (by simp); have m0 := (hide HMw).out.cell 0; have m1 := (hide HMw).out.cell 1; have m2 := (hide HMw).out.cell 2; have m3 := (hide HMw).out.cell 3; have m4 := (hide HMw).out.cell 4; have m5 := (hide HMw).out.cell 5; have m6 := (hide HMw).out.cell 6; have m7 := (hide HMw).out.cell 7; have m8 := (hide HMw).out.cell 8; have m9 := (hide HMw).out.cell 9; have m10 := (hide HMw).out.cell 10; have m11 := (hide HMw).out.cell 11; have m12 := (hide HMw).out.cell 12; simp at m0 m1 m2 m3 m4 m5 m6 m7 m8 m9 m10 m11 m12; go_simp; try with_reducible rfl)
  try simp only [List.getElem_toArray, List.getElem_cons_succ, List.getElem_cons_zero, Act.put, List.setIfInBounds_toArray, List.set_cons_zero, List.set_cons_succ]
  refine wpAnyH_take (i := 36) (v := ?_) rfl (by kernel_rfl) (by kernel_rfl) (by kernel_rfl) (fun _ _ _ h => h) (Or.inl ⟨by rfl, ?_⟩) (by assumption) ?_
  rotate_left
  · (intro w hSw; (try dsimp only at hSw); have HMw := HMB.out.only hSw (by simp); have m0 := (hide HMw).out.cell 0; have m1 := (hide HMw).out.cell 1; have m2 := (hide HMw).out.cell 2; have m3 := (hide HMw).out.cell 3; have m4 := (hide HMw).out.cell 4; have m5 := (hide HMw).out.cell 5; have m6 := (hide HMw).out.cell 6; have m7 := (hide HMw).out.cell 7; have m8 := (hide HMw).out.cell 8; have m9 := (hide HMw).out.cell 9; have m10 := (hide HMw).out.cell 10; have m11 := (hide HMw).out.cell 11; have m12 := (hide HMw).out.cell 12; simp at m0 m1 m2 m3 m4 m5 m6 m7 m8 m9 m10 m11 m12; go_simp; try with_reducible rfl)
  try simp only [List.getElem_toArray, List.getElem_cons_succ, List.getElem_cons_zero, Act.put, List.setIfInBounds_toArray, List.set_cons_zero, List.set_cons_succ]
  refine wpAnyH_ready (rs := [35]) (by kernel_rfl) (by simp) ?_
  refine AllReadyH.cons rfl (fun K hK => ?_) AllReadyH.nil
  go_simp
  (go_at_call 39; refine (HSD.out _ (HT.out.only hHeld (by simp))).mono ?_; rintro e wz ⟨rfl, ho⟩)
  refine hK.out _ _ (by exact hHeld.trans ho) (fun hHeld => ?_)
  clear hK K ho
  try simp only [List.getElem_toArray, List.getElem_cons_succ, List.getElem_cons_zero, Act.put, List.setIfInBounds_toArray, List.set_cons_zero, List.set_cons_succ]
  refine wpAnyH_ready (rs := [37]) (by kernel_rfl) (by simp) ?_
  refine AllReadyH.cons rfl (fun K hK => ?_) AllReadyH.nil
  go_simp
  (go_at_call 44; refine (HSR.out _).mono ?_; rintro e wz ⟨rfl, ho⟩)
  refine hK.out _ _ (by exact hHeld.trans ho) (fun hHeld => ?_)
  clear hK K ho
  try simp only [List.getElem_toArray, List.getElem_cons_succ, List.getElem_cons_zero, Act.put, List.setIfInBounds_toArray, List.set_cons_zero, List.set_cons_succ]
  refine wpAnyH_take (i := 38) (v := ?_) rfl (by kernel_rfl) (by kernel_rfl) (by kernel_rfl) (fun _ _ _ h => h) (Or.inl ⟨by rfl, ?_⟩) (by assumption) ?_
  rotate_left
  · (intro w hSw; (try dsimp only at hSw); go_simp; try with_reducible rfl)
  try simp only [List.getElem_toArray, List.getElem_cons_succ, List.getElem_cons_zero, Act.put, List.setIfInBounds_toArray, List.set_cons_zero, List.set_cons_succ]
  refine wpAnyH_take (i := 39) (v := ?_) rfl (by kernel_rfl) (by kernel_rfl) (by kernel_rfl) (fun _ _ _ h => h) (Or.inl ⟨by rfl, ?_⟩) (by assumption) ?_
  rotate_left
  · (intro w hSw; (try dsimp only at hSw); go_simp; try with_reducible rfl)
  try simp only [List.getElem_toArray, List.getElem_cons_succ, List.getElem_cons_zero, Act.put, List.setIfInBounds_toArray, List.set_cons_zero, List.set_cons_succ]
  refine wpAnyH_take (i := 40) (v := ?_) rfl (by kernel_rfl) (by kernel_rfl) (by kernel_rfl) (fun _ _ _ h => h) (Or.inl ⟨by rfl, ?_⟩) (by assumption) ?_
  rotate_left
  · (intro w hSw; (try dsimp only at hSw); go_simp; try with_reducible rfl)
  try simp only [List.getElem_toArray, List.getElem_cons_succ, List.getElem_cons_zero, Act.put, List.setIfInBounds_toArray, List.set_cons_zero, List.set_cons_succ]
  refine wpAnyH_done (by kernel_rfl) ?_ _
  go_wp2_with fail
  go_ret
  exact ⟨rfl, HO.out.trans hHeld⟩
theorem wp_walk (m : Mg) (hF : m.Fine) {w : World} (htab : Tab w) : Calls Tryd.prog 8 #[.agg m.cells] w fun e w' => e = .returned (.bool true) ∧ Only [] w w' := by
  obtain ⟨b, hb⟩ := Heavy_val m 2000
  cases b with
  | true => exact wp_heavy w m (hide hb)
  | false =>
    cases hR : rightM m with
    | false => exact wp_wrong w m hF hR htab (hide hb)
    | true => exact wp_right w m hF hR htab (hide hb)
end
section
open Go.RowKit Go.Deep Go.ChangeShapes Go.WideShapes Go.ChangeAt

theorem list_13 {α : Type} {l : List α} (h : l.length = 13) : ∃ a0 a1 a2 a3 a4 a5 a6 a7 a8 a9 a10 a11 a12, l = [a0, a1, a2, a3, a4, a5, a6, a7, a8, a9, a10, a11, a12] := by
  match l, h with
  | [a0, a1, a2, a3, a4, a5, a6, a7, a8, a9, a10, a11, a12], _ => exact ⟨a0, a1, a2, a3, a4, a5, a6, a7, a8, a9, a10, a11, a12, rfl⟩
theorem u32_lt {n : Int} (h : (Lit.int .u32 n).wf = true) : ∃ x : Nat, n = x ∧ x < 4294967296 := by
  simp only [Lit.wf, Bool.and_eq_true, decide_eq_true_eq] at h
  have e1 : IntKind.u32.min = 0 := rfl
  have e2 : IntKind.u32.max = 4294967295 := rfl
  exact ⟨n.toNat, by omega, by omega⟩
theorem u64_lt {n : Int} (h : (Lit.int .u64 n).wf = true) : ∃ x : Nat, n = x ∧ x < 18446744073709551616 := by
  simp only [Lit.wf, Bool.and_eq_true, decide_eq_true_eq] at h
  have e1 : IntKind.u64.min = 0 := rfl
  have e2 : IntKind.u64.max = 18446744073709551615 := rfl
  exact ⟨n.toNat, by omega, by omega⟩
section
variable {H : Type} {enc : TypeId × Value → H} {w : World} {base : Nat} {spare : Nat → Bool} {held : Bool}
set_option maxRecDepth 100000 in
set_option maxHeartbeats 3200000 in
theorem open_msg {r : Reach} {b0 : Nat} {v : Value} {d : DataW H} {ps : List MemPlace} (hv : Value.okWide Tryd.prog w r b0 53 v) (h : DataW.Trod enc Tryd.prog w base spare held 53 v d ps) :
    ∃ m : Mg, v = .agg m.cells ∧ m.Fine ∧ -9223372036854775808 ≤ m.k ∧ m.k ≤ 9223372036854775807 := by
  obtain ⟨cs, rfl, hcs⟩ := okWide_struct Tryd.underlying53 hv
  obtain ⟨fuel, hf⟩ := h
  obtain ⟨xs, m, _, _, hl, hx, hf⟩ := DataW.trod_struct Tryd.underlying53 hf
  rw [show Tryd.prog.cellsOf 53 = 13 from by kernel_rfl] at hl
  obtain ⟨a0, a1, a2, a3, a4, a5, a6, a7, a8, a9, a10, a11, a12, hc⟩ := list_13 hl
  rw [hc] at hf
  have h0 := hf 0 _ rfl
  have h1 := hf 1 _ rfl
  have h2 := hf 2 _ rfl
  have h3 := hf 3 _ rfl
  have h4 := hf 4 _ rfl
  have h5 := hf 5 _ rfl
  have h6 := hf 6 _ rfl
  have h7 := hf 7 _ rfl
  have h8 := hf 8 _ rfl
  have h9 := hf 9 _ rfl
  have h10 := hf 10 _ rfl
  have h11 := hf 11 _ rfl
  have h12 := hf 12 _ rfl
  simp only [List.getElem_toArray, List.getElem_cons_zero, List.getElem_cons_succ, show Tryd.prog.cellsOf 3 = 1 from by kernel_rfl, show Tryd.prog.cellsOf 51 = 1 from by kernel_rfl, show Tryd.prog.cellsOf 24 = 1 from by kernel_rfl, show Tryd.prog.cellsOf 9 = 1 from by kernel_rfl] at h0 h1 h2 h3 h4 h5 h6 h7 h8 h9 h10 h11 h12
  rw [List.getElem?_eq_getElem (by rw [hx]; decide)] at h0 h1 h2 h3 h4 h5 h6 h7 h8 h9 h10 h11 h12
  obtain ⟨n0, z0, _, w0⟩ := DataW.trod_int Tryd.underlying3 h0
  obtain ⟨n1, z1, _, w1⟩ := DataW.trod_int Tryd.underlying51 h1
  obtain ⟨n2, z2, _, w2⟩ := DataW.trod_int Tryd.underlying51 h2
  obtain ⟨n3, z3, _, w3⟩ := DataW.trod_int Tryd.underlying24 h3
  obtain ⟨s4, z4, _, w4⟩ := DataW.trod_string Tryd.underlying9 h4
  obtain ⟨s5, z5, _, w5⟩ := DataW.trod_string Tryd.underlying9 h5
  obtain ⟨s6, z6, _, w6⟩ := DataW.trod_string Tryd.underlying9 h6
  obtain ⟨s7, z7, _, w7⟩ := DataW.trod_string Tryd.underlying9 h7
  obtain ⟨s8, z8, _, w8⟩ := DataW.trod_string Tryd.underlying9 h8
  obtain ⟨s9, z9, _, w9⟩ := DataW.trod_string Tryd.underlying9 h9
  obtain ⟨s10, z10, _, w10⟩ := DataW.trod_string Tryd.underlying9 h10
  obtain ⟨s11, z11, _, w11⟩ := DataW.trod_string Tryd.underlying9 h11
  obtain ⟨s12, z12, _, w12⟩ := DataW.trod_string Tryd.underlying9 h12
  simp at z0 z1 z2 z3 z4 z5 z6 z7 z8 z9 z10 z11 z12
  obtain ⟨s, rfl, hs⟩ := u32_lt w1
  obtain ⟨r2, rfl, hr⟩ := u32_lt w2
  obtain ⟨c, rfl, hcc⟩ := u64_lt w3
  have bk := bounds_i64 w0
  refine ⟨⟨n0, s, r2, c, s4, s5, s6, s7, s8, s9, s10, s11, s12⟩, ?_, ⟨hs, hr, hcc, w4, w5, w6, w7, w8, w9, w10, w11, w12⟩, bk.1, bk.2⟩
  have : cs = #[a0, a1, a2, a3, a4, a5, a6, a7, a8, a9, a10, a11, a12] := by
    have : cs.toList = [a0, a1, a2, a3, a4, a5, a6, a7, a8, a9, a10, a11, a12] := by simpa [Value.cells] using hc
    rw [← Array.toArray_toList (xs := cs), this]
  rw [this, z0, z1, z2, z3, z4, z5, z6, z7, z8, z9, z10, z11, z12]
  rfl
end
end
end Go.Proofs.YtfmfnfmhknlpbaaDoor

/-
  Walks and plain words (texts Wf3). No condition beyond those that each theorem states.
-/
import Derived.Test.YteoifokmbkpbnaaDoorQ09
namespace Go.Proofs.YteoifokmbkpbnaaDoor
section
open Go.RowKit Go.Deep

set_option maxRecDepth 100000 in
set_option maxHeartbeats 12800000 in
theorem Read_3 (w : World) (bv : Value) (l : List UInt8) (hl : l.length ≤ 1099511627776) (l0 : List UInt8) (hh : headV l = (0, 3, l0)) (hll : l0.length ≤ l.length) (hne : l ≠ []) (hb : Rd w [] bv (ints .u8 (byts l))) :
    Calls Tryd.prog 61 #[bv] w (ReadPostW (readV l) w) := by
  obtain ⟨A, cap, rfl, hc1, hc2⟩ := hb.formb
  obtain ⟨G, O, rfl, _⟩ : ∃ G O, A = some ⟨G, O, none⟩ ∧ True := by
    obtain ⟨b, r, rfl⟩ := List.exists_cons_of_ne_nil hne
    obtain ⟨g, o, h, _⟩ := hb.at_.2.2.2 0 (.int .u8 (b.toNat : Int)) rfl
    exact ⟨g, o, h, trivial⟩
  have HO := hide (((Only.refl [] w).alloc (.cells (zeroM 0) 78)).alloc (.cells #[.slice (some ⟨G, O, none⟩) l.length cap] 117))
  have HRB := hide ((Blk.new w 78 (zeroM 0)).alloc (.cells #[.slice (some ⟨G, O, none⟩) l.length cap] 117))
  have HA := hide (show RdrAt ((w.alloc (.cells (zeroM 0) 78)).alloc (.cells #[.slice (some ⟨G, O, none⟩) l.length cap] 117)) [] (w.heap.size + 1) l from by
    have h := Blk.new (w.alloc (.cells (zeroM 0) 78)) 117 #[.slice (some ⟨G, O, none⟩) l.length cap]
    rw [World.size_alloc] at h
    exact ⟨G, O, cap, h, (hb.more (by intro x hx; rw [List.mem_singleton.1 hx]; right; omega)).only HO.out (by simp)⟩)
  unfold zeroM at HO HRB HA
  have HH := hide (fun W ha => head_w W [] (w.heap.size + 1) l hl ha)
  unfold HeadPost at HH
  rw [hh] at HH
  simp only at HH
  have HRW := hide (fun W => row_3 W)
  unfold RowPost at HRW
  have HF0 := hide (show readV l = _ from read_kind hh rfl)
  have hl0 : l0.length ≤ 1099511627776 := by omega
  have HL0 := hide hl0
  have hst := fun (W : World) (a : Addr) (fn : Fn) (c : Array Value) => (run_store Tryd.prog W a (.func fn #[] c) .plain rfl : (store a (.func fn #[] c)).run Tryd.prog W = stored Tryd.prog W a (.func fn #[] c) .plain)
  have hsn := fun (W : World) (a : Addr) => (run_store Tryd.prog W a .nilFunc .plain rfl : (store a .nilFunc).run Tryd.prog W = stored Tryd.prog W a .nilFunc .plain)
  clear hb hl hh hll hne hl0
  go_enter Tryd.func61, Tryd.ntmps61
  go_wp2_with (first
    | (go_at_call 75; refine (HH.out _ HA.out).mono ?_; rintro e w1 ⟨rfl, ho, ha⟩; have HRB := hide (HRB.out.only ho (by simp)); have HO := hide (((HO.out.mono (S' := [w.heap.size + 1]) (by simp)).trans ho).mono (S' := []) (by simp)); have HZ := hide ho.size; have HM := hide (Blk.new w1 78 #[.int .i64 3, .int .u32 0, .int .u32 0, .int .u64 0, .string ⟨#[]⟩, .string ⟨#[]⟩, .string ⟨#[]⟩, .string ⟨#[]⟩, .string ⟨#[]⟩, .string ⟨#[]⟩, .string ⟨#[]⟩, .string ⟨#[]⟩, .string ⟨#[]⟩]); have HA := hide (((ha (by trivial)).more (N' := [w1.heap.size]) (by intro x hx; right; rw [List.mem_singleton.1 hx]; exact Nat.le_refl _)).only ((Only.refl [] w1).alloc (.cells #[.int .i64 3, .int .u32 0, .int .u32 0, .int .u64 0, .string ⟨#[]⟩, .string ⟨#[]⟩, .string ⟨#[]⟩, .string ⟨#[]⟩, .string ⟨#[]⟩, .string ⟨#[]⟩, .string ⟨#[]⟩, .string ⟨#[]⟩, .string ⟨#[]⟩] 78)) (by simp) (by simp)); have HRB := hide (HRB.out.alloc (.cells #[.int .i64 3, .int .u32 0, .int .u32 0, .int .u64 0, .string ⟨#[]⟩, .string ⟨#[]⟩, .string ⟨#[]⟩, .string ⟨#[]⟩, .string ⟨#[]⟩, .string ⟨#[]⟩, .string ⟨#[]⟩, .string ⟨#[]⟩, .string ⟨#[]⟩] 78)); have HO := hide (HO.out.alloc (.cells #[.int .i64 3, .int .u32 0, .int .u32 0, .int .u64 0, .string ⟨#[]⟩, .string ⟨#[]⟩, .string ⟨#[]⟩, .string ⟨#[]⟩, .string ⟨#[]⟩, .string ⟨#[]⟩, .string ⟨#[]⟩, .string ⟨#[]⟩, .string ⟨#[]⟩] 78)); clear ho ha)
    | (go_at_call 76; refine (HRW.out _).mono ?_; rintro e w2 ⟨gr, b1, b2, rfl, hgr, hb1, hb2, hrow, hx1, hx2, ho⟩; have HROW := hide hrow; have HX1 := hide hx1; have HX2 := hide hx2; have HGR := hide hgr; have HB1 := hide hb1; have HB2 := hide hb2; have HM := hide (HM.out.only ho (by simp)); have HA := hide (HA.out.only ho (by simp) (by simp)); have HRB := hide (HRB.out.only ho (by simp)); have HO := hide (HO.out.trans ho); clear hgr hb1 hb2 hrow hx1 hx2 ho))
  have hd : w.heap.size + 1 + 1 ≤ w1.heap.size ∧ w1.heap.size < gr ∧ w1.heap.size < b1 ∧ w1.heap.size < b2 := by
    have h1 := HZ.out; have h2 := HGR.out; have h3 := HB1.out; have h4 := HB2.out
    simp only [World.size_alloc] at h1 h2 h3 h4
    omega
  have HD := hide hd
  have HF1 := hide (show fieldsV (rowL 3) l0 (zeroM 3) = fieldsV [2, 8, 9] l0 #[.int .i64 3, .int .u32 0, .int .u32 0, .int .u64 0, .string ⟨#[]⟩, .string ⟨#[]⟩, .string ⟨#[]⟩, .string ⟨#[]⟩, .string ⟨#[]⟩, .string ⟨#[]⟩, .string ⟨#[]⟩, .string ⟨#[]⟩, .string ⟨#[]⟩] from rfl)
  clear hd HZ HGR HB1 HB2
  refine wp_loop_rounds 4 ?_
  rw [rounds_succ]
  have a0 := HROW.out.cell 0; have a1 := HROW.out.cell 1; have a2 := HROW.out.cell 2; have a3 := HROW.out.cell 3
  simp [row3C, numC, txtC] at a0 a1 a2 a3
  obtain ⟨⟨c, x0, l1⟩, hr⟩ : ∃ r, numV 4 l0 = r := ⟨_, rfl⟩
  have HL1 := hide (show l1.length ≤ 1099511627776 by have h := num_len 4 l0; rw [hr] at h; have := HL0.out; simp only at h; omega)
  have hfv : fieldV 2 l0 = (c, .int .u32 (x0 : Nat), l1) := by have e : fieldV 2 l0 = ((numV 4 l0).1, .int .u32 ((numV 4 l0).2.1 : Nat), (numV 4 l0).2.2) := rfl; rw [e, hr]
  have HFD := hide (fun W (ha : RdrAt W [w1.heap.size] (w.heap.size + 1) l0) (hm : Blk W w1.heap.size 78 #[.int .i64 3, .int .u32 0, .int .u32 0, .int .u64 0, .string ⟨#[]⟩, .string ⟨#[]⟩, .string ⟨#[]⟩, .string ⟨#[]⟩, .string ⟨#[]⟩, .string ⟨#[]⟩, .string ⟨#[]⟩, .string ⟨#[]⟩, .string ⟨#[]⟩]) (hx : Blk W b2 _ _) => field_r W [w1.heap.size] (w.heap.size + 1) w1.heap.size b2 l0 HL0.out #[.int .i64 3, .int .u32 0, .int .u32 0, .int .u64 0, .string ⟨#[]⟩, .string ⟨#[]⟩, .string ⟨#[]⟩, .string ⟨#[]⟩, .string ⟨#[]⟩, .string ⟨#[]⟩, .string ⟨#[]⟩, .string ⟨#[]⟩, .string ⟨#[]⟩] (y := 0) rfl ha (by simp) (by have := HD.out; omega) hm hx (by have := HD.out; omega))
  unfold FieldPost at HFD
  rw [hr] at HFD
  simp only at HFD
  by_cases hc : c = 0
  case neg =>
    have hcb : (c != 0) = true := bne_iff_ne.2 hc
    have HV2 := hide (show readV l = (c, zeroM 0) by rw [HF0.out, HF1.out, fields_no hfv hc]; exact if_neg hc)
    clear hc hfv hr
    go_wp2_with (go_at_call 77; refine (HFD.out _ (HA.out.only ((Only.refl [] _).alloc _) (by simp) (by simp)) (HM.out.alloc _) (HX2.out.alloc _)).mono ?_; rintro e w3 ⟨rfl, ho, hz⟩; (first | clear r0 r1 r2 r3 r4 r5 r6 r7 r8 r9 r10 r11 r12 rf | skip); replace HRB := hide ((HRB.out.alloc _).only ho (by have := HD.out; simp; omega)); replace HO := hide ((((HO.out.alloc _).mono (S' := [w.heap.size + 1, w1.heap.size]) (by simp)).trans ho).mono (S' := []) (by have := HD.out; simp; omega)); have r0 := HRB.out.cell 0; have r1 := HRB.out.cell 1; have r2 := HRB.out.cell 2; have r3 := HRB.out.cell 3; have r4 := HRB.out.cell 4; have r5 := HRB.out.cell 5; have r6 := HRB.out.cell 6; have r7 := HRB.out.cell 7; have r8 := HRB.out.cell 8; have r9 := HRB.out.cell 9; have r10 := HRB.out.cell 10; have r11 := HRB.out.cell 11; have r12 := HRB.out.cell 12; simp at r0 r1 r2 r3 r4 r5 r6 r7 r8 r9 r10 r11 r12; have rf := HRB.out.frozen; clear ho hz)
    refine bodyPost_ret (results_cell_two rfl _ _ w.heap.size 78 _ (0, 0) _ rfl (set13 HRB.out (.int .i64 0) (.int .u32 0) (.int .u32 0) (.int .u64 0) (.string ⟨#[]⟩) (.string ⟨#[]⟩) (.string ⟨#[]⟩) (.string ⟨#[]⟩) (.string ⟨#[]⟩) (.string ⟨#[]⟩) (.string ⟨#[]⟩) (.string ⟨#[]⟩) (.string ⟨#[]⟩)) Tryd.underlying78 rfl (by kernel_rfl)) rfl ?_
    exact readw HV2.out (only13 HO.out (.inr (Nat.le_refl _)) (.int .i64 0) (.int .u32 0) (.int .u32 0) (.int .u64 0) (.string ⟨#[]⟩) (.string ⟨#[]⟩) (.string ⟨#[]⟩) (.string ⟨#[]⟩) (.string ⟨#[]⟩) (.string ⟨#[]⟩) (.string ⟨#[]⟩) (.string ⟨#[]⟩) (.string ⟨#[]⟩))
  subst hc
  have HF2 := hide (show fieldsV (rowL 3) l0 (zeroM 3) = fieldsV [8, 9] l1 #[.int .i64 3, .int .u32 0, .int .u32 (x0 : Nat), .int .u64 0, .string ⟨#[]⟩, .string ⟨#[]⟩, .string ⟨#[]⟩, .string ⟨#[]⟩, .string ⟨#[]⟩, .string ⟨#[]⟩, .string ⟨#[]⟩, .string ⟨#[]⟩, .string ⟨#[]⟩] by rw [HF1.out, fields_yes hfv]; rfl)
  clear hfv hr
  go_wp2_with (go_at_call 77; refine (HFD.out _ (HA.out.only ((Only.refl [] _).alloc _) (by simp) (by simp)) (HM.out.alloc _) (HX2.out.alloc _)).mono ?_; rintro e w3 ⟨rfl, ho, hz⟩; (first | clear r0 r1 r2 r3 r4 r5 r6 r7 r8 r9 r10 r11 r12 rf | skip); replace HRB := hide ((HRB.out.alloc _).only ho (by have := HD.out; simp; omega)); replace HO := hide ((((HO.out.alloc _).mono (S' := [w.heap.size + 1, w1.heap.size]) (by simp)).trans ho).mono (S' := []) (by have := HD.out; simp; omega)); have r0 := HRB.out.cell 0; have r1 := HRB.out.cell 1; have r2 := HRB.out.cell 2; have r3 := HRB.out.cell 3; have r4 := HRB.out.cell 4; have r5 := HRB.out.cell 5; have r6 := HRB.out.cell 6; have r7 := HRB.out.cell 7; have r8 := HRB.out.cell 8; have r9 := HRB.out.cell 9; have r10 := HRB.out.cell 10; have r11 := HRB.out.cell 11; have r12 := HRB.out.cell 12; simp at r0 r1 r2 r3 r4 r5 r6 r7 r8 r9 r10 r11 r12; have rf := HRB.out.frozen; obtain ⟨ha, hm⟩ := hz (by trivial); replace HA := hide ha; replace HM := hide hm; replace HROW := hide ((HROW.out.alloc _).only ho (by have := HD.out; simp; omega)); replace HX1 := hide ((HX1.out.alloc _).only ho (by have := HD.out; simp; omega)); replace HX2 := hide ((HX2.out.alloc _).only ho (by have := HD.out; simp; omega)); clear ho hz ha hm)
  clear a0 a1 a2 a3 HFD
  rw [rounds_succ]
  have a0 := HROW.out.cell 4; have a1 := HROW.out.cell 5; have a2 := HROW.out.cell 6; have a3 := HROW.out.cell 7
  simp [row3C, numC, txtC] at a0 a1 a2 a3
  obtain ⟨⟨c, x1, l2⟩, hr⟩ : ∃ r, textV l1 = r := ⟨_, rfl⟩
  have HL2 := hide (show l2.length ≤ 1099511627776 by have h := text_len l1; rw [hr] at h; have := HL1.out; simp only at h; omega)
  have hfv : fieldV 8 l1 = (c, .string x1, l2) := by have e : fieldV 8 l1 = ((textV l1).1, .string (textV l1).2.1, (textV l1).2.2) := rfl; rw [e, hr]
  have HFD := hide (fun W (ha : RdrAt W [w1.heap.size] (w.heap.size + 1) l1) (hm : Blk W w1.heap.size 78 #[.int .i64 3, .int .u32 0, .int .u32 (x0 : Nat), .int .u64 0, .string ⟨#[]⟩, .string ⟨#[]⟩, .string ⟨#[]⟩, .string ⟨#[]⟩, .string ⟨#[]⟩, .string ⟨#[]⟩, .string ⟨#[]⟩, .string ⟨#[]⟩, .string ⟨#[]⟩]) => field_8 W [w1.heap.size] (w.heap.size + 1) w1.heap.size l1 HL1.out #[.int .i64 3, .int .u32 0, .int .u32 (x0 : Nat), .int .u64 0, .string ⟨#[]⟩, .string ⟨#[]⟩, .string ⟨#[]⟩, .string ⟨#[]⟩, .string ⟨#[]⟩, .string ⟨#[]⟩, .string ⟨#[]⟩, .string ⟨#[]⟩, .string ⟨#[]⟩] rfl ha (by simp) (by have := HD.out; omega) hm)
  unfold FieldPost at HFD
  rw [hr] at HFD
  simp only at HFD
  by_cases hc : c = 0
  case neg =>
    have hcb : (c != 0) = true := bne_iff_ne.2 hc
    have HV2 := hide (show readV l = (c, zeroM 0) by rw [HF0.out, HF2.out, fields_no hfv hc]; exact if_neg hc)
    clear hc hfv hr
    go_wp2_with (go_at_call 77; refine (HFD.out _ (HA.out.only ((Only.refl [] _).alloc _) (by simp) (by simp)) (HM.out.alloc _)).mono ?_; rintro e w3 ⟨rfl, ho, hz⟩; (first | clear r0 r1 r2 r3 r4 r5 r6 r7 r8 r9 r10 r11 r12 rf | skip); replace HRB := hide ((HRB.out.alloc _).only ho (by have := HD.out; simp; omega)); replace HO := hide ((((HO.out.alloc _).mono (S' := [w.heap.size + 1, w1.heap.size]) (by simp)).trans ho).mono (S' := []) (by have := HD.out; simp; omega)); have r0 := HRB.out.cell 0; have r1 := HRB.out.cell 1; have r2 := HRB.out.cell 2; have r3 := HRB.out.cell 3; have r4 := HRB.out.cell 4; have r5 := HRB.out.cell 5; have r6 := HRB.out.cell 6; have r7 := HRB.out.cell 7; have r8 := HRB.out.cell 8; have r9 := HRB.out.cell 9; have r10 := HRB.out.cell 10; have r11 := HRB.out.cell 11; have r12 := HRB.out.cell 12; simp at r0 r1 r2 r3 r4 r5 r6 r7 r8 r9 r10 r11 r12; have rf := HRB.out.frozen; clear ho hz)
    refine bodyPost_ret (results_cell_two rfl _ _ w.heap.size 78 _ (0, 0) _ rfl (set13 HRB.out (.int .i64 0) (.int .u32 0) (.int .u32 0) (.int .u64 0) (.string ⟨#[]⟩) (.string ⟨#[]⟩) (.string ⟨#[]⟩) (.string ⟨#[]⟩) (.string ⟨#[]⟩) (.string ⟨#[]⟩) (.string ⟨#[]⟩) (.string ⟨#[]⟩) (.string ⟨#[]⟩)) Tryd.underlying78 rfl (by kernel_rfl)) rfl ?_
    exact readw HV2.out (only13 HO.out (.inr (Nat.le_refl _)) (.int .i64 0) (.int .u32 0) (.int .u32 0) (.int .u64 0) (.string ⟨#[]⟩) (.string ⟨#[]⟩) (.string ⟨#[]⟩) (.string ⟨#[]⟩) (.string ⟨#[]⟩) (.string ⟨#[]⟩) (.string ⟨#[]⟩) (.string ⟨#[]⟩) (.string ⟨#[]⟩))
  subst hc
  have HF3 := hide (show fieldsV (rowL 3) l0 (zeroM 3) = fieldsV [9] l2 #[.int .i64 3, .int .u32 0, .int .u32 (x0 : Nat), .int .u64 0, .string ⟨#[]⟩, .string ⟨#[]⟩, .string ⟨#[]⟩, .string ⟨#[]⟩, .string x1, .string ⟨#[]⟩, .string ⟨#[]⟩, .string ⟨#[]⟩, .string ⟨#[]⟩] by rw [HF2.out, fields_yes hfv]; rfl)
  clear hfv hr
  go_wp2_with (go_at_call 77; refine (HFD.out _ (HA.out.only ((Only.refl [] _).alloc _) (by simp) (by simp)) (HM.out.alloc _)).mono ?_; rintro e w3 ⟨rfl, ho, hz⟩; (first | clear r0 r1 r2 r3 r4 r5 r6 r7 r8 r9 r10 r11 r12 rf | skip); replace HRB := hide ((HRB.out.alloc _).only ho (by have := HD.out; simp; omega)); replace HO := hide ((((HO.out.alloc _).mono (S' := [w.heap.size + 1, w1.heap.size]) (by simp)).trans ho).mono (S' := []) (by have := HD.out; simp; omega)); have r0 := HRB.out.cell 0; have r1 := HRB.out.cell 1; have r2 := HRB.out.cell 2; have r3 := HRB.out.cell 3; have r4 := HRB.out.cell 4; have r5 := HRB.out.cell 5; have r6 := HRB.out.cell 6; have r7 := HRB.out.cell 7; have r8 := HRB.out.cell 8; have r9 := HRB.out.cell 9; have r10 := HRB.out.cell 10; have r11 := HRB.out.cell 11; have r12 := HRB.out.cell 12; simp at r0 r1 r2 r3 r4 r5 r6 r7 r8 r9 r10 r11 r12; have rf := HRB.out.frozen; obtain ⟨ha, hm⟩ := hz (by trivial); replace HA := hide ha; replace HM := hide hm; replace HROW := hide ((HROW.out.alloc _).only ho (by have := HD.out; simp; omega)); replace HX1 := hide ((HX1.out.alloc _).only ho (by have := HD.out; simp; omega)); replace HX2 := hide ((HX2.out.alloc _).only ho (by have := HD.out; simp; omega)); clear ho hz ha hm)
  clear a0 a1 a2 a3 HFD
  rw [rounds_succ]
  have a0 := HROW.out.cell 8; have a1 := HROW.out.cell 9; have a2 := HROW.out.cell 10; have a3 := HROW.out.cell 11
  simp [row3C, numC, txtC] at a0 a1 a2 a3
  obtain ⟨⟨c, x2, l3⟩, hr⟩ : ∃ r, textV l2 = r := ⟨_, rfl⟩
  have HL3 := hide (show l3.length ≤ 1099511627776 by have h := text_len l2; rw [hr] at h; have := HL2.out; simp only at h; omega)
  have hfv : fieldV 9 l2 = (c, .string x2, l3) := by have e : fieldV 9 l2 = ((textV l2).1, .string (textV l2).2.1, (textV l2).2.2) := rfl; rw [e, hr]
  have HFD := hide (fun W (ha : RdrAt W [w1.heap.size] (w.heap.size + 1) l2) (hm : Blk W w1.heap.size 78 #[.int .i64 3, .int .u32 0, .int .u32 (x0 : Nat), .int .u64 0, .string ⟨#[]⟩, .string ⟨#[]⟩, .string ⟨#[]⟩, .string ⟨#[]⟩, .string x1, .string ⟨#[]⟩, .string ⟨#[]⟩, .string ⟨#[]⟩, .string ⟨#[]⟩]) => field_9 W [w1.heap.size] (w.heap.size + 1) w1.heap.size l2 HL2.out #[.int .i64 3, .int .u32 0, .int .u32 (x0 : Nat), .int .u64 0, .string ⟨#[]⟩, .string ⟨#[]⟩, .string ⟨#[]⟩, .string ⟨#[]⟩, .string x1, .string ⟨#[]⟩, .string ⟨#[]⟩, .string ⟨#[]⟩, .string ⟨#[]⟩] rfl ha (by simp) (by have := HD.out; omega) hm)
  unfold FieldPost at HFD
  rw [hr] at HFD
  simp only at HFD
  by_cases hc : c = 0
  case neg =>
    have hcb : (c != 0) = true := bne_iff_ne.2 hc
    have HV2 := hide (show readV l = (c, zeroM 0) by rw [HF0.out, HF3.out, fields_no hfv hc]; exact if_neg hc)
    clear hc hfv hr
    go_wp2_with (go_at_call 77; refine (HFD.out _ (HA.out.only ((Only.refl [] _).alloc _) (by simp) (by simp)) (HM.out.alloc _)).mono ?_; rintro e w3 ⟨rfl, ho, hz⟩; (first | clear r0 r1 r2 r3 r4 r5 r6 r7 r8 r9 r10 r11 r12 rf | skip); replace HRB := hide ((HRB.out.alloc _).only ho (by have := HD.out; simp; omega)); replace HO := hide ((((HO.out.alloc _).mono (S' := [w.heap.size + 1, w1.heap.size]) (by simp)).trans ho).mono (S' := []) (by have := HD.out; simp; omega)); have r0 := HRB.out.cell 0; have r1 := HRB.out.cell 1; have r2 := HRB.out.cell 2; have r3 := HRB.out.cell 3; have r4 := HRB.out.cell 4; have r5 := HRB.out.cell 5; have r6 := HRB.out.cell 6; have r7 := HRB.out.cell 7; have r8 := HRB.out.cell 8; have r9 := HRB.out.cell 9; have r10 := HRB.out.cell 10; have r11 := HRB.out.cell 11; have r12 := HRB.out.cell 12; simp at r0 r1 r2 r3 r4 r5 r6 r7 r8 r9 r10 r11 r12; have rf := HRB.out.frozen; clear ho hz)
    refine bodyPost_ret (results_cell_two rfl _ _ w.heap.size 78 _ (0, 0) _ rfl (set13 HRB.out (.int .i64 0) (.int .u32 0) (.int .u32 0) (.int .u64 0) (.string ⟨#[]⟩) (.string ⟨#[]⟩) (.string ⟨#[]⟩) (.string ⟨#[]⟩) (.string ⟨#[]⟩) (.string ⟨#[]⟩) (.string ⟨#[]⟩) (.string ⟨#[]⟩) (.string ⟨#[]⟩)) Tryd.underlying78 rfl (by kernel_rfl)) rfl ?_
    exact readw HV2.out (only13 HO.out (.inr (Nat.le_refl _)) (.int .i64 0) (.int .u32 0) (.int .u32 0) (.int .u64 0) (.string ⟨#[]⟩) (.string ⟨#[]⟩) (.string ⟨#[]⟩) (.string ⟨#[]⟩) (.string ⟨#[]⟩) (.string ⟨#[]⟩) (.string ⟨#[]⟩) (.string ⟨#[]⟩) (.string ⟨#[]⟩))
  subst hc
  have HF4 := hide (show fieldsV (rowL 3) l0 (zeroM 3) = fieldsV [] l3 #[.int .i64 3, .int .u32 0, .int .u32 (x0 : Nat), .int .u64 0, .string ⟨#[]⟩, .string ⟨#[]⟩, .string ⟨#[]⟩, .string ⟨#[]⟩, .string x1, .string x2, .string ⟨#[]⟩, .string ⟨#[]⟩, .string ⟨#[]⟩] by rw [HF3.out, fields_yes hfv]; rfl)
  clear hfv hr
  go_wp2_with (go_at_call 77; refine (HFD.out _ (HA.out.only ((Only.refl [] _).alloc _) (by simp) (by simp)) (HM.out.alloc _)).mono ?_; rintro e w3 ⟨rfl, ho, hz⟩; (first | clear r0 r1 r2 r3 r4 r5 r6 r7 r8 r9 r10 r11 r12 rf | skip); replace HRB := hide ((HRB.out.alloc _).only ho (by have := HD.out; simp; omega)); replace HO := hide ((((HO.out.alloc _).mono (S' := [w.heap.size + 1, w1.heap.size]) (by simp)).trans ho).mono (S' := []) (by have := HD.out; simp; omega)); have r0 := HRB.out.cell 0; have r1 := HRB.out.cell 1; have r2 := HRB.out.cell 2; have r3 := HRB.out.cell 3; have r4 := HRB.out.cell 4; have r5 := HRB.out.cell 5; have r6 := HRB.out.cell 6; have r7 := HRB.out.cell 7; have r8 := HRB.out.cell 8; have r9 := HRB.out.cell 9; have r10 := HRB.out.cell 10; have r11 := HRB.out.cell 11; have r12 := HRB.out.cell 12; simp at r0 r1 r2 r3 r4 r5 r6 r7 r8 r9 r10 r11 r12; have rf := HRB.out.frozen; obtain ⟨ha, hm⟩ := hz (by trivial); replace HA := hide ha; replace HM := hide hm; replace HROW := hide ((HROW.out.alloc _).only ho (by have := HD.out; simp; omega)); replace HX1 := hide ((HX1.out.alloc _).only ho (by have := HD.out; simp; omega)); replace HX2 := hide ((HX2.out.alloc _).only ho (by have := HD.out; simp; omega)); clear ho hz ha hm)
  clear a0 a1 a2 a3 HFD
  rw [rounds_succ]
  obtain ⟨G2, O2, cap2, hg2, _⟩ := HA.out
  have q0 := hg2.cell 0
  simp at q0
  by_cases hn : l3 = []
  · have hz : l3.length = 0 := by rw [hn]; rfl
    rw [hz] at q0
    have HV2 := hide (show readV l = (0, #[.int .i64 3, .int .u32 0, .int .u32 (x0 : Nat), .int .u64 0, .string ⟨#[]⟩, .string ⟨#[]⟩, .string ⟨#[]⟩, .string ⟨#[]⟩, .string x1, .string x2, .string ⟨#[]⟩, .string ⟨#[]⟩, .string ⟨#[]⟩]) by rw [HF0.out, HF4.out, hn]; rfl)
    have m0 := HM.out.cell 0; have m1 := HM.out.cell 1; have m2 := HM.out.cell 2; have m3 := HM.out.cell 3; have m4 := HM.out.cell 4; have m5 := HM.out.cell 5; have m6 := HM.out.cell 6; have m7 := HM.out.cell 7; have m8 := HM.out.cell 8; have m9 := HM.out.cell 9; have m10 := HM.out.cell 10; have m11 := HM.out.cell 11; have m12 := HM.out.cell 12
    simp at m0 m1 m2 m3 m4 m5 m6 m7 m8 m9 m10 m11 m12
    clear hn hz hg2
    go_wp2_with fail
    refine bodyPost_ret (results_cell_two rfl _ _ w.heap.size 78 _ (0, 0) _ rfl (set13 HRB.out (.int .i64 3) (.int .u32 0) (.int .u32 (x0 : Nat)) (.int .u64 0) (.string ⟨#[]⟩) (.string ⟨#[]⟩) (.string ⟨#[]⟩) (.string ⟨#[]⟩) (.string x1) (.string x2) (.string ⟨#[]⟩) (.string ⟨#[]⟩) (.string ⟨#[]⟩)) Tryd.underlying78 rfl (by kernel_rfl)) rfl ?_
    exact readw HV2.out (only13 HO.out (.inr (Nat.le_refl _)) (.int .i64 3) (.int .u32 0) (.int .u32 (x0 : Nat)) (.int .u64 0) (.string ⟨#[]⟩) (.string ⟨#[]⟩) (.string ⟨#[]⟩) (.string ⟨#[]⟩) (.string x1) (.string x2) (.string ⟨#[]⟩) (.string ⟨#[]⟩) (.string ⟨#[]⟩))
  · have hp : 0 < l3.length := List.length_pos_iff.2 hn
    have hpI : (0 : Int) < l3.length := by omega
    have HV2 := hide (show readV l = (5, zeroM 0) by rw [HF0.out, HF4.out]; exact (if_pos rfl).trans (if_neg hn))
    clear hn hg2
    go_wp2_with fail
    refine bodyPost_ret (results_cell_two rfl _ _ w.heap.size 78 _ (0, 0) _ rfl (set13 HRB.out (.int .i64 0) (.int .u32 0) (.int .u32 0) (.int .u64 0) (.string ⟨#[]⟩) (.string ⟨#[]⟩) (.string ⟨#[]⟩) (.string ⟨#[]⟩) (.string ⟨#[]⟩) (.string ⟨#[]⟩) (.string ⟨#[]⟩) (.string ⟨#[]⟩) (.string ⟨#[]⟩)) Tryd.underlying78 rfl (by kernel_rfl)) rfl ?_
    exact readw HV2.out (only13 HO.out (.inr (Nat.le_refl _)) (.int .i64 0) (.int .u32 0) (.int .u32 0) (.int .u64 0) (.string ⟨#[]⟩) (.string ⟨#[]⟩) (.string ⟨#[]⟩) (.string ⟨#[]⟩) (.string ⟨#[]⟩) (.string ⟨#[]⟩) (.string ⟨#[]⟩) (.string ⟨#[]⟩) (.string ⟨#[]⟩))
end
end Go.Proofs.YteoifokmbkpbnaaDoor

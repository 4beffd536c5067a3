/-
  Walks and plain words (texts Wf4, Wg, Wi0, Msg, Wj0, Wk). No condition beyond those that each theorem states.
-/
import Derived.Test.YteoifokmbkpbnaaDoorChecked
import Derived.Laws.StructEq
import Derived.Test.YteoifokmbkpbnaaDoorQ10
import Derived.Test.YteoifokmbkpbnaaDoorQ11
import Derived.Test.YteoifokmbkpbnaaDoorQ12
namespace Go.Proofs.YteoifokmbkpbnaaDoor
section
open Go.RowKit Go.Deep

set_option maxRecDepth 100000 in
set_option maxHeartbeats 12800000 in
theorem Read_4 (w : World) (bv : Value) (l : List UInt8) (hl : l.length ≤ 1099511627776) (l0 : List UInt8) (hh : headV l = (0, 4, l0)) (hll : l0.length ≤ l.length) (hne : l ≠ []) (hb : Rd w [] bv (ints .u8 (byts l))) :
    Calls Tryd.prog 61 #[bv] w (ReadPostW (readV l) w) := by
  obtain ⟨A, cap, rfl, hc1, hc2⟩ := hb.formb
  obtain ⟨G, O, rfl, _⟩ : ∃ G O, A = some ⟨G, O, none⟩ ∧ True := by
    obtain ⟨b, r, rfl⟩ := List.exists_cons_of_ne_nil hne
    obtain ⟨g, o, h, _⟩ := hb.at_.2.2.2 0 (.int .u8 (b.toNat : Int)) rfl
    exact ⟨g, o, h, trivial⟩
  have HO := hide (((Only.refl [] w).alloc (.cells (zeroM 0) 78)).alloc (.cells #[.slice (some ⟨G, O, none⟩) l.length cap] 117))
  have HRB := hide ((Blk.new w 78 (zeroM 0)).alloc (.cells #[.slice (some ⟨G, O, none⟩) l.length cap] 117))
  have HA := hide (show RdrAt ((w.alloc (.cells (zeroM 0) 78)).alloc (.cells #[.slice (some ⟨G, O, none⟩) l.length cap] 117)) [] (w.heap.size + 1) l from by
    have h := Blk.new (w.alloc (.cells (zeroM 0) 78)) 117 #[.slice (some ⟨G, O, none⟩) l.length cap]
    rw [World.size_alloc] at h
    exact ⟨G, O, cap, h, (hb.more (by intro x hx; rw [List.mem_singleton.1 hx]; right; omega)).only HO.out (by simp)⟩)
  unfold zeroM at HO HRB HA
  have HH := hide (fun W ha => head_w W [] (w.heap.size + 1) l hl ha)
  unfold HeadPost at HH
  rw [hh] at HH
  simp only at HH
  have HRW := hide (fun W => row_4 W)
  unfold RowPost at HRW
  have HF0 := hide (show readV l = _ from read_kind hh rfl)
  have hl0 : l0.length ≤ 1099511627776 := by omega
  have HL0 := hide hl0
  have hst := fun (W : World) (a : Addr) (fn : Fn) (c : Array Value) => (run_store Tryd.prog W a (.func fn #[] c) .plain rfl : (store a (.func fn #[] c)).run Tryd.prog W = stored Tryd.prog W a (.func fn #[] c) .plain)
  have hsn := fun (W : World) (a : Addr) => (run_store Tryd.prog W a .nilFunc .plain rfl : (store a .nilFunc).run Tryd.prog W = stored Tryd.prog W a .nilFunc .plain)
  clear hb hl hh hll hne hl0
  go_enter Tryd.func61, Tryd.ntmps61
  go_wp2_with (first
    | (go_at_call 75; refine (HH.out _ HA.out).mono ?_; rintro e w1 ⟨rfl, ho, ha⟩; have HRB := hide (HRB.out.only ho (by simp)); have HO := hide (((HO.out.mono (S' := [w.heap.size + 1]) (by simp)).trans ho).mono (S' := []) (by simp)); have HZ := hide ho.size; have HM := hide (Blk.new w1 78 #[.int .i64 4, .int .u32 0, .int .u32 0, .int .u64 0, .string ⟨#[]⟩, .string ⟨#[]⟩, .string ⟨#[]⟩, .string ⟨#[]⟩, .string ⟨#[]⟩, .string ⟨#[]⟩, .string ⟨#[]⟩, .string ⟨#[]⟩, .string ⟨#[]⟩]); have HA := hide (((ha (by trivial)).more (N' := [w1.heap.size]) (by intro x hx; right; rw [List.mem_singleton.1 hx]; exact Nat.le_refl _)).only ((Only.refl [] w1).alloc (.cells #[.int .i64 4, .int .u32 0, .int .u32 0, .int .u64 0, .string ⟨#[]⟩, .string ⟨#[]⟩, .string ⟨#[]⟩, .string ⟨#[]⟩, .string ⟨#[]⟩, .string ⟨#[]⟩, .string ⟨#[]⟩, .string ⟨#[]⟩, .string ⟨#[]⟩] 78)) (by simp) (by simp)); have HRB := hide (HRB.out.alloc (.cells #[.int .i64 4, .int .u32 0, .int .u32 0, .int .u64 0, .string ⟨#[]⟩, .string ⟨#[]⟩, .string ⟨#[]⟩, .string ⟨#[]⟩, .string ⟨#[]⟩, .string ⟨#[]⟩, .string ⟨#[]⟩, .string ⟨#[]⟩, .string ⟨#[]⟩] 78)); have HO := hide (HO.out.alloc (.cells #[.int .i64 4, .int .u32 0, .int .u32 0, .int .u64 0, .string ⟨#[]⟩, .string ⟨#[]⟩, .string ⟨#[]⟩, .string ⟨#[]⟩, .string ⟨#[]⟩, .string ⟨#[]⟩, .string ⟨#[]⟩, .string ⟨#[]⟩, .string ⟨#[]⟩] 78)); clear ho ha)
    | (go_at_call 76; refine (HRW.out _).mono ?_; rintro e w2 ⟨gr, b1, b2, rfl, hgr, hb1, hb2, hrow, hx1, hx2, ho⟩; have HROW := hide hrow; have HX1 := hide hx1; have HX2 := hide hx2; have HGR := hide hgr; have HB1 := hide hb1; have HB2 := hide hb2; have HM := hide (HM.out.only ho (by simp)); have HA := hide (HA.out.only ho (by simp) (by simp)); have HRB := hide (HRB.out.only ho (by simp)); have HO := hide (HO.out.trans ho); clear hgr hb1 hb2 hrow hx1 hx2 ho))
  have hd : w.heap.size + 1 + 1 ≤ w1.heap.size ∧ w1.heap.size < gr ∧ w1.heap.size < b1 ∧ w1.heap.size < b2 := by
    have h1 := HZ.out; have h2 := HGR.out; have h3 := HB1.out; have h4 := HB2.out
    simp only [World.size_alloc] at h1 h2 h3 h4
    omega
  have HD := hide hd
  have HF1 := hide (show fieldsV (rowL 4) l0 (zeroM 4) = fieldsV [2, 3, 10] l0 #[.int .i64 4, .int .u32 0, .int .u32 0, .int .u64 0, .string ⟨#[]⟩, .string ⟨#[]⟩, .string ⟨#[]⟩, .string ⟨#[]⟩, .string ⟨#[]⟩, .string ⟨#[]⟩, .string ⟨#[]⟩, .string ⟨#[]⟩, .string ⟨#[]⟩] from rfl)
  clear hd HZ HGR HB1 HB2
  refine wp_loop_rounds 4 ?_
  rw [rounds_succ]
  have a0 := HROW.out.cell 0; have a1 := HROW.out.cell 1; have a2 := HROW.out.cell 2; have a3 := HROW.out.cell 3
  simp [row4C, numC, txtC, cntC] at a0 a1 a2 a3
  obtain ⟨⟨c, x0, l1⟩, hr⟩ : ∃ r, numV 4 l0 = r := ⟨_, rfl⟩
  have HL1 := hide (show l1.length ≤ 1099511627776 by have h := num_len 4 l0; rw [hr] at h; have := HL0.out; simp only at h; omega)
  have hfv : fieldV 2 l0 = (c, .int .u32 (x0 : Nat), l1) := by have e : fieldV 2 l0 = ((numV 4 l0).1, .int .u32 ((numV 4 l0).2.1 : Nat), (numV 4 l0).2.2) := rfl; rw [e, hr]
  have HFD := hide (fun W (ha : RdrAt W [w1.heap.size] (w.heap.size + 1) l0) (hm : Blk W w1.heap.size 78 #[.int .i64 4, .int .u32 0, .int .u32 0, .int .u64 0, .string ⟨#[]⟩, .string ⟨#[]⟩, .string ⟨#[]⟩, .string ⟨#[]⟩, .string ⟨#[]⟩, .string ⟨#[]⟩, .string ⟨#[]⟩, .string ⟨#[]⟩, .string ⟨#[]⟩]) (hx : Blk W b2 _ _) => field_r W [w1.heap.size] (w.heap.size + 1) w1.heap.size b2 l0 HL0.out #[.int .i64 4, .int .u32 0, .int .u32 0, .int .u64 0, .string ⟨#[]⟩, .string ⟨#[]⟩, .string ⟨#[]⟩, .string ⟨#[]⟩, .string ⟨#[]⟩, .string ⟨#[]⟩, .string ⟨#[]⟩, .string ⟨#[]⟩, .string ⟨#[]⟩] (y := 0) rfl ha (by simp) (by have := HD.out; omega) hm hx (by have := HD.out; omega))
  unfold FieldPost at HFD
  rw [hr] at HFD
  simp only at HFD
  by_cases hc : c = 0
  case neg =>
    have hcb : (c != 0) = true := bne_iff_ne.2 hc
    have HV2 := hide (show readV l = (c, zeroM 0) by rw [HF0.out, HF1.out, fields_no hfv hc]; exact if_neg hc)
    clear hc hfv hr
    go_wp2_with (go_at_call 77; refine (HFD.out _ (HA.out.only ((Only.refl [] _).alloc _) (by simp) (by simp)) (HM.out.alloc _) (HX2.out.alloc _)).mono ?_; rintro e w3 ⟨rfl, ho, hz⟩; (first | clear r0 r1 r2 r3 r4 r5 r6 r7 r8 r9 r10 r11 r12 rf | skip); replace HRB := hide ((HRB.out.alloc _).only ho (by have := HD.out; simp; omega)); replace HO := hide ((((HO.out.alloc _).mono (S' := [w.heap.size + 1, w1.heap.size]) (by simp)).trans ho).mono (S' := []) (by have := HD.out; simp; omega)); have r0 := HRB.out.cell 0; have r1 := HRB.out.cell 1; have r2 := HRB.out.cell 2; have r3 := HRB.out.cell 3; have r4 := HRB.out.cell 4; have r5 := HRB.out.cell 5; have r6 := HRB.out.cell 6; have r7 := HRB.out.cell 7; have r8 := HRB.out.cell 8; have r9 := HRB.out.cell 9; have r10 := HRB.out.cell 10; have r11 := HRB.out.cell 11; have r12 := HRB.out.cell 12; simp at r0 r1 r2 r3 r4 r5 r6 r7 r8 r9 r10 r11 r12; have rf := HRB.out.frozen; clear ho hz)
    refine bodyPost_ret (results_cell_two rfl _ _ w.heap.size 78 _ (0, 0) _ rfl (set13 HRB.out (.int .i64 0) (.int .u32 0) (.int .u32 0) (.int .u64 0) (.string ⟨#[]⟩) (.string ⟨#[]⟩) (.string ⟨#[]⟩) (.string ⟨#[]⟩) (.string ⟨#[]⟩) (.string ⟨#[]⟩) (.string ⟨#[]⟩) (.string ⟨#[]⟩) (.string ⟨#[]⟩)) Tryd.underlying78 rfl (by kernel_rfl)) rfl ?_
    exact readw HV2.out (only13 HO.out (.inr (Nat.le_refl _)) (.int .i64 0) (.int .u32 0) (.int .u32 0) (.int .u64 0) (.string ⟨#[]⟩) (.string ⟨#[]⟩) (.string ⟨#[]⟩) (.string ⟨#[]⟩) (.string ⟨#[]⟩) (.string ⟨#[]⟩) (.string ⟨#[]⟩) (.string ⟨#[]⟩) (.string ⟨#[]⟩))
  subst hc
  have HF2 := hide (show fieldsV (rowL 4) l0 (zeroM 4) = fieldsV [3, 10] l1 #[.int .i64 4, .int .u32 0, .int .u32 (x0 : Nat), .int .u64 0, .string ⟨#[]⟩, .string ⟨#[]⟩, .string ⟨#[]⟩, .string ⟨#[]⟩, .string ⟨#[]⟩, .string ⟨#[]⟩, .string ⟨#[]⟩, .string ⟨#[]⟩, .string ⟨#[]⟩] by rw [HF1.out, fields_yes hfv]; rfl)
  clear hfv hr
  go_wp2_with (go_at_call 77; refine (HFD.out _ (HA.out.only ((Only.refl [] _).alloc _) (by simp) (by simp)) (HM.out.alloc _) (HX2.out.alloc _)).mono ?_; rintro e w3 ⟨rfl, ho, hz⟩; (first | clear r0 r1 r2 r3 r4 r5 r6 r7 r8 r9 r10 r11 r12 rf | skip); replace HRB := hide ((HRB.out.alloc _).only ho (by have := HD.out; simp; omega)); replace HO := hide ((((HO.out.alloc _).mono (S' := [w.heap.size + 1, w1.heap.size]) (by simp)).trans ho).mono (S' := []) (by have := HD.out; simp; omega)); have r0 := HRB.out.cell 0; have r1 := HRB.out.cell 1; have r2 := HRB.out.cell 2; have r3 := HRB.out.cell 3; have r4 := HRB.out.cell 4; have r5 := HRB.out.cell 5; have r6 := HRB.out.cell 6; have r7 := HRB.out.cell 7; have r8 := HRB.out.cell 8; have r9 := HRB.out.cell 9; have r10 := HRB.out.cell 10; have r11 := HRB.out.cell 11; have r12 := HRB.out.cell 12; simp at r0 r1 r2 r3 r4 r5 r6 r7 r8 r9 r10 r11 r12; have rf := HRB.out.frozen; obtain ⟨ha, hm⟩ := hz (by trivial); replace HA := hide ha; replace HM := hide hm; replace HROW := hide ((HROW.out.alloc _).only ho (by have := HD.out; simp; omega)); replace HX1 := hide ((HX1.out.alloc _).only ho (by have := HD.out; simp; omega)); replace HX2 := hide ((HX2.out.alloc _).only ho (by have := HD.out; simp; omega)); clear ho hz ha hm)
  clear a0 a1 a2 a3 HFD
  rw [rounds_succ]
  have a0 := HROW.out.cell 4; have a1 := HROW.out.cell 5; have a2 := HROW.out.cell 6; have a3 := HROW.out.cell 7
  simp [row4C, numC, txtC, cntC] at a0 a1 a2 a3
  obtain ⟨⟨c, x1, l2⟩, hr⟩ : ∃ r, numV 8 l1 = r := ⟨_, rfl⟩
  have HL2 := hide (show l2.length ≤ 1099511627776 by have h := num_len 8 l1; rw [hr] at h; have := HL1.out; simp only at h; omega)
  have hfv : fieldV 3 l1 = (c, .int .u64 (x1 : Nat), l2) := by have e : fieldV 3 l1 = ((numV 8 l1).1, .int .u64 ((numV 8 l1).2.1 : Nat), (numV 8 l1).2.2) := rfl; rw [e, hr]
  have HFD := hide (fun W (ha : RdrAt W [w1.heap.size] (w.heap.size + 1) l1) (hm : Blk W w1.heap.size 78 #[.int .i64 4, .int .u32 0, .int .u32 (x0 : Nat), .int .u64 0, .string ⟨#[]⟩, .string ⟨#[]⟩, .string ⟨#[]⟩, .string ⟨#[]⟩, .string ⟨#[]⟩, .string ⟨#[]⟩, .string ⟨#[]⟩, .string ⟨#[]⟩, .string ⟨#[]⟩]) => field_c W [w1.heap.size] (w.heap.size + 1) w1.heap.size l1 HL1.out #[.int .i64 4, .int .u32 0, .int .u32 (x0 : Nat), .int .u64 0, .string ⟨#[]⟩, .string ⟨#[]⟩, .string ⟨#[]⟩, .string ⟨#[]⟩, .string ⟨#[]⟩, .string ⟨#[]⟩, .string ⟨#[]⟩, .string ⟨#[]⟩, .string ⟨#[]⟩] (y := 0) rfl ha (by simp) (by have := HD.out; omega) hm)
  unfold FieldPost at HFD
  rw [hr] at HFD
  simp only at HFD
  by_cases hc : c = 0
  case neg =>
    have hcb : (c != 0) = true := bne_iff_ne.2 hc
    have HV2 := hide (show readV l = (c, zeroM 0) by rw [HF0.out, HF2.out, fields_no hfv hc]; exact if_neg hc)
    clear hc hfv hr
    go_wp2_with (go_at_call 77; refine (HFD.out _ (HA.out.only ((Only.refl [] _).alloc _) (by simp) (by simp)) (HM.out.alloc _)).mono ?_; rintro e w3 ⟨rfl, ho, hz⟩; (first | clear r0 r1 r2 r3 r4 r5 r6 r7 r8 r9 r10 r11 r12 rf | skip); replace HRB := hide ((HRB.out.alloc _).only ho (by have := HD.out; simp; omega)); replace HO := hide ((((HO.out.alloc _).mono (S' := [w.heap.size + 1, w1.heap.size]) (by simp)).trans ho).mono (S' := []) (by have := HD.out; simp; omega)); have r0 := HRB.out.cell 0; have r1 := HRB.out.cell 1; have r2 := HRB.out.cell 2; have r3 := HRB.out.cell 3; have r4 := HRB.out.cell 4; have r5 := HRB.out.cell 5; have r6 := HRB.out.cell 6; have r7 := HRB.out.cell 7; have r8 := HRB.out.cell 8; have r9 := HRB.out.cell 9; have r10 := HRB.out.cell 10; have r11 := HRB.out.cell 11; have r12 := HRB.out.cell 12; simp at r0 r1 r2 r3 r4 r5 r6 r7 r8 r9 r10 r11 r12; have rf := HRB.out.frozen; clear ho hz)
    refine bodyPost_ret (results_cell_two rfl _ _ w.heap.size 78 _ (0, 0) _ rfl (set13 HRB.out (.int .i64 0) (.int .u32 0) (.int .u32 0) (.int .u64 0) (.string ⟨#[]⟩) (.string ⟨#[]⟩) (.string ⟨#[]⟩) (.string ⟨#[]⟩) (.string ⟨#[]⟩) (.string ⟨#[]⟩) (.string ⟨#[]⟩) (.string ⟨#[]⟩) (.string ⟨#[]⟩)) Tryd.underlying78 rfl (by kernel_rfl)) rfl ?_
    exact readw HV2.out (only13 HO.out (.inr (Nat.le_refl _)) (.int .i64 0) (.int .u32 0) (.int .u32 0) (.int .u64 0) (.string ⟨#[]⟩) (.string ⟨#[]⟩) (.string ⟨#[]⟩) (.string ⟨#[]⟩) (.string ⟨#[]⟩) (.string ⟨#[]⟩) (.string ⟨#[]⟩) (.string ⟨#[]⟩) (.string ⟨#[]⟩))
  subst hc
  have HF3 := hide (show fieldsV (rowL 4) l0 (zeroM 4) = fieldsV [10] l2 #[.int .i64 4, .int .u32 0, .int .u32 (x0 : Nat), .int .u64 (x1 : Nat), .string ⟨#[]⟩, .string ⟨#[]⟩, .string ⟨#[]⟩, .string ⟨#[]⟩, .string ⟨#[]⟩, .string ⟨#[]⟩, .string ⟨#[]⟩, .string ⟨#[]⟩, .string ⟨#[]⟩] by rw [HF2.out, fields_yes hfv]; rfl)
  clear hfv hr
  go_wp2_with (go_at_call 77; refine (HFD.out _ (HA.out.only ((Only.refl [] _).alloc _) (by simp) (by simp)) (HM.out.alloc _)).mono ?_; rintro e w3 ⟨rfl, ho, hz⟩; (first | clear r0 r1 r2 r3 r4 r5 r6 r7 r8 r9 r10 r11 r12 rf | skip); replace HRB := hide ((HRB.out.alloc _).only ho (by have := HD.out; simp; omega)); replace HO := hide ((((HO.out.alloc _).mono (S' := [w.heap.size + 1, w1.heap.size]) (by simp)).trans ho).mono (S' := []) (by have := HD.out; simp; omega)); have r0 := HRB.out.cell 0; have r1 := HRB.out.cell 1; have r2 := HRB.out.cell 2; have r3 := HRB.out.cell 3; have r4 := HRB.out.cell 4; have r5 := HRB.out.cell 5; have r6 := HRB.out.cell 6; have r7 := HRB.out.cell 7; have r8 := HRB.out.cell 8; have r9 := HRB.out.cell 9; have r10 := HRB.out.cell 10; have r11 := HRB.out.cell 11; have r12 := HRB.out.cell 12; simp at r0 r1 r2 r3 r4 r5 r6 r7 r8 r9 r10 r11 r12; have rf := HRB.out.frozen; obtain ⟨ha, hm⟩ := hz (by trivial); replace HA := hide ha; replace HM := hide hm; replace HROW := hide ((HROW.out.alloc _).only ho (by have := HD.out; simp; omega)); replace HX1 := hide ((HX1.out.alloc _).only ho (by have := HD.out; simp; omega)); replace HX2 := hide ((HX2.out.alloc _).only ho (by have := HD.out; simp; omega)); clear ho hz ha hm)
  clear a0 a1 a2 a3 HFD
  rw [rounds_succ]
  have a0 := HROW.out.cell 8; have a1 := HROW.out.cell 9; have a2 := HROW.out.cell 10; have a3 := HROW.out.cell 11
  simp [row4C, numC, txtC, cntC] at a0 a1 a2 a3
  obtain ⟨⟨c, x2, l3⟩, hr⟩ : ∃ r, textV l2 = r := ⟨_, rfl⟩
  have HL3 := hide (show l3.length ≤ 1099511627776 by have h := text_len l2; rw [hr] at h; have := HL2.out; simp only at h; omega)
  have hfv : fieldV 10 l2 = (c, .string x2, l3) := by have e : fieldV 10 l2 = ((textV l2).1, .string (textV l2).2.1, (textV l2).2.2) := rfl; rw [e, hr]
  have HFD := hide (fun W (ha : RdrAt W [w1.heap.size] (w.heap.size + 1) l2) (hm : Blk W w1.heap.size 78 #[.int .i64 4, .int .u32 0, .int .u32 (x0 : Nat), .int .u64 (x1 : Nat), .string ⟨#[]⟩, .string ⟨#[]⟩, .string ⟨#[]⟩, .string ⟨#[]⟩, .string ⟨#[]⟩, .string ⟨#[]⟩, .string ⟨#[]⟩, .string ⟨#[]⟩, .string ⟨#[]⟩]) => field_10 W [w1.heap.size] (w.heap.size + 1) w1.heap.size l2 HL2.out #[.int .i64 4, .int .u32 0, .int .u32 (x0 : Nat), .int .u64 (x1 : Nat), .string ⟨#[]⟩, .string ⟨#[]⟩, .string ⟨#[]⟩, .string ⟨#[]⟩, .string ⟨#[]⟩, .string ⟨#[]⟩, .string ⟨#[]⟩, .string ⟨#[]⟩, .string ⟨#[]⟩] rfl ha (by simp) (by have := HD.out; omega) hm)
  unfold FieldPost at HFD
  rw [hr] at HFD
  simp only at HFD
  by_cases hc : c = 0
  case neg =>
    have hcb : (c != 0) = true := bne_iff_ne.2 hc
    have HV2 := hide (show readV l = (c, zeroM 0) by rw [HF0.out, HF3.out, fields_no hfv hc]; exact if_neg hc)
    clear hc hfv hr
    go_wp2_with (go_at_call 77; refine (HFD.out _ (HA.out.only ((Only.refl [] _).alloc _) (by simp) (by simp)) (HM.out.alloc _)).mono ?_; rintro e w3 ⟨rfl, ho, hz⟩; (first | clear r0 r1 r2 r3 r4 r5 r6 r7 r8 r9 r10 r11 r12 rf | skip); replace HRB := hide ((HRB.out.alloc _).only ho (by have := HD.out; simp; omega)); replace HO := hide ((((HO.out.alloc _).mono (S' := [w.heap.size + 1, w1.heap.size]) (by simp)).trans ho).mono (S' := []) (by have := HD.out; simp; omega)); have r0 := HRB.out.cell 0; have r1 := HRB.out.cell 1; have r2 := HRB.out.cell 2; have r3 := HRB.out.cell 3; have r4 := HRB.out.cell 4; have r5 := HRB.out.cell 5; have r6 := HRB.out.cell 6; have r7 := HRB.out.cell 7; have r8 := HRB.out.cell 8; have r9 := HRB.out.cell 9; have r10 := HRB.out.cell 10; have r11 := HRB.out.cell 11; have r12 := HRB.out.cell 12; simp at r0 r1 r2 r3 r4 r5 r6 r7 r8 r9 r10 r11 r12; have rf := HRB.out.frozen; clear ho hz)
    refine bodyPost_ret (results_cell_two rfl _ _ w.heap.size 78 _ (0, 0) _ rfl (set13 HRB.out (.int .i64 0) (.int .u32 0) (.int .u32 0) (.int .u64 0) (.string ⟨#[]⟩) (.string ⟨#[]⟩) (.string ⟨#[]⟩) (.string ⟨#[]⟩) (.string ⟨#[]⟩) (.string ⟨#[]⟩) (.string ⟨#[]⟩) (.string ⟨#[]⟩) (.string ⟨#[]⟩)) Tryd.underlying78 rfl (by kernel_rfl)) rfl ?_
    exact readw HV2.out (only13 HO.out (.inr (Nat.le_refl _)) (.int .i64 0) (.int .u32 0) (.int .u32 0) (.int .u64 0) (.string ⟨#[]⟩) (.string ⟨#[]⟩) (.string ⟨#[]⟩) (.string ⟨#[]⟩) (.string ⟨#[]⟩) (.string ⟨#[]⟩) (.string ⟨#[]⟩) (.string ⟨#[]⟩) (.string ⟨#[]⟩))
  subst hc
  have HF4 := hide (show fieldsV (rowL 4) l0 (zeroM 4) = fieldsV [] l3 #[.int .i64 4, .int .u32 0, .int .u32 (x0 : Nat), .int .u64 (x1 : Nat), .string ⟨#[]⟩, .string ⟨#[]⟩, .string ⟨#[]⟩, .string ⟨#[]⟩, .string ⟨#[]⟩, .string ⟨#[]⟩, .string x2, .string ⟨#[]⟩, .string ⟨#[]⟩] by rw [HF3.out, fields_yes hfv]; rfl)
  clear hfv hr
  go_wp2_with (go_at_call 77; refine (HFD.out _ (HA.out.only ((Only.refl [] _).alloc _) (by simp) (by simp)) (HM.out.alloc _)).mono ?_; rintro e w3 ⟨rfl, ho, hz⟩; (first | clear r0 r1 r2 r3 r4 r5 r6 r7 r8 r9 r10 r11 r12 rf | skip); replace HRB := hide ((HRB.out.alloc _).only ho (by have := HD.out; simp; omega)); replace HO := hide ((((HO.out.alloc _).mono (S' := [w.heap.size + 1, w1.heap.size]) (by simp)).trans ho).mono (S' := []) (by have := HD.out; simp; omega)); have r0 := HRB.out.cell 0; have r1 := HRB.out.cell 1; have r2 := HRB.out.cell 2; have r3 := HRB.out.cell 3; have r4 := HRB.out.cell 4; have r5 := HRB.out.cell 5; have r6 := HRB.out.cell 6; have r7 := HRB.out.cell 7; have r8 := HRB.out.cell 8; have r9 := HRB.out.cell 9; have r10 := HRB.out.cell 10; have r11 := HRB.out.cell 11; have r12 := HRB.out.cell 12; simp at r0 r1 r2 r3 r4 r5 r6 r7 r8 r9 r10 r11 r12; have rf := HRB.out.frozen; obtain ⟨ha, hm⟩ := hz (by trivial); replace HA := hide ha; replace HM := hide hm; replace HROW := hide ((HROW.out.alloc _).only ho (by have := HD.out; simp; omega)); replace HX1 := hide ((HX1.out.alloc _).only ho (by have := HD.out; simp; omega)); replace HX2 := hide ((HX2.out.alloc _).only ho (by have := HD.out; simp; omega)); clear ho hz ha hm)
  clear a0 a1 a2 a3 HFD
  rw [rounds_succ]
  obtain ⟨G2, O2, cap2, hg2, _⟩ := HA.out
  have q0 := hg2.cell 0
  simp at q0
  by_cases hn : l3 = []
  · have hz : l3.length = 0 := by rw [hn]; rfl
    rw [hz] at q0
    have HV2 := hide (show readV l = (0, #[.int .i64 4, .int .u32 0, .int .u32 (x0 : Nat), .int .u64 (x1 : Nat), .string ⟨#[]⟩, .string ⟨#[]⟩, .string ⟨#[]⟩, .string ⟨#[]⟩, .string ⟨#[]⟩, .string ⟨#[]⟩, .string x2, .string ⟨#[]⟩, .string ⟨#[]⟩]) by rw [HF0.out, HF4.out, hn]; rfl)
    have m0 := HM.out.cell 0; have m1 := HM.out.cell 1; have m2 := HM.out.cell 2; have m3 := HM.out.cell 3; have m4 := HM.out.cell 4; have m5 := HM.out.cell 5; have m6 := HM.out.cell 6; have m7 := HM.out.cell 7; have m8 := HM.out.cell 8; have m9 := HM.out.cell 9; have m10 := HM.out.cell 10; have m11 := HM.out.cell 11; have m12 := HM.out.cell 12
    simp at m0 m1 m2 m3 m4 m5 m6 m7 m8 m9 m10 m11 m12
    clear hn hz hg2
    go_wp2_with fail
    refine bodyPost_ret (results_cell_two rfl _ _ w.heap.size 78 _ (0, 0) _ rfl (set13 HRB.out (.int .i64 4) (.int .u32 0) (.int .u32 (x0 : Nat)) (.int .u64 (x1 : Nat)) (.string ⟨#[]⟩) (.string ⟨#[]⟩) (.string ⟨#[]⟩) (.string ⟨#[]⟩) (.string ⟨#[]⟩) (.string ⟨#[]⟩) (.string x2) (.string ⟨#[]⟩) (.string ⟨#[]⟩)) Tryd.underlying78 rfl (by kernel_rfl)) rfl ?_
    exact readw HV2.out (only13 HO.out (.inr (Nat.le_refl _)) (.int .i64 4) (.int .u32 0) (.int .u32 (x0 : Nat)) (.int .u64 (x1 : Nat)) (.string ⟨#[]⟩) (.string ⟨#[]⟩) (.string ⟨#[]⟩) (.string ⟨#[]⟩) (.string ⟨#[]⟩) (.string ⟨#[]⟩) (.string x2) (.string ⟨#[]⟩) (.string ⟨#[]⟩))
  · have hp : 0 < l3.length := List.length_pos_iff.2 hn
    have hpI : (0 : Int) < l3.length := by omega
    have HV2 := hide (show readV l = (5, zeroM 0) by rw [HF0.out, HF4.out]; exact (if_pos rfl).trans (if_neg hn))
    clear hn hg2
    go_wp2_with fail
    refine bodyPost_ret (results_cell_two rfl _ _ w.heap.size 78 _ (0, 0) _ rfl (set13 HRB.out (.int .i64 0) (.int .u32 0) (.int .u32 0) (.int .u64 0) (.string ⟨#[]⟩) (.string ⟨#[]⟩) (.string ⟨#[]⟩) (.string ⟨#[]⟩) (.string ⟨#[]⟩) (.string ⟨#[]⟩) (.string ⟨#[]⟩) (.string ⟨#[]⟩) (.string ⟨#[]⟩)) Tryd.underlying78 rfl (by kernel_rfl)) rfl ?_
    exact readw HV2.out (only13 HO.out (.inr (Nat.le_refl _)) (.int .i64 0) (.int .u32 0) (.int .u32 0) (.int .u64 0) (.string ⟨#[]⟩) (.string ⟨#[]⟩) (.string ⟨#[]⟩) (.string ⟨#[]⟩) (.string ⟨#[]⟩) (.string ⟨#[]⟩) (.string ⟨#[]⟩) (.string ⟨#[]⟩) (.string ⟨#[]⟩))
end
section
open Go.RowKit Go.Deep

theorem zero_len (n : Nat) (l : List UInt8) : (zeroV n l).2.length ≤ l.length := by
  induction n generalizing l with
  | zero => exact Nat.le_refl _
  | succ n ih =>
    cases l with
    | nil => simp [zeroV]
    | cons b r =>
      rw [zeroV]
      split
      · have := ih r; simp only [List.length_cons]; omega
      · simp
/-- The head of a message, by cases. -/
theorem head_cases (l : List UInt8) : (∃ c, headV l = (c, 0, []) ∧ c ≠ 0) ∨ ∃ k q, headV l = (0, k, q) ∧ (k = 1 ∨ k = 2 ∨ k = 3 ∨ k = 4) ∧ q.length ≤ l.length ∧ l ≠ [] := by
  cases l with
  | nil => exact .inl ⟨4, rfl, by decide⟩
  | cons c r =>
    by_cases hk : c = 1 ∨ c = 2 ∨ c = 3 ∨ c = 4
    · have e : headV (c :: r) = if (zeroV 3 r).1 = 0 then (0, (c.toNat : Int), (zeroV 3 r).2) else ((zeroV 3 r).1, 0, []) := if_pos hk
      by_cases hz : (zeroV 3 r).1 = 0
      · rw [if_pos hz] at e
        refine .inr ⟨_, _, e, ?_, by have := zero_len 3 r; simp only [List.length_cons]; omega, by simp⟩
        rcases hk with rfl | rfl | rfl | rfl <;> decide
      · rw [if_neg hz] at e
        exact .inl ⟨_, e, hz⟩
    · exact .inl ⟨3, if_neg hk, by decide⟩

set_option maxRecDepth 100000 in
set_option maxHeartbeats 6400000 in
theorem Read_err (w : World) (bv : Value) (l : List UInt8) (hl : l.length ≤ 1099511627776) (c : Int) (hh : headV l = (c, 0, [])) (hc : c ≠ 0) (hne : l ≠ []) (hb : Rd w [] bv (ints .u8 (byts l))) :
    Calls Tryd.prog 61 #[bv] w (ReadPostW (readV l) w) := by
  obtain ⟨A, cap, rfl, hc1, hc2⟩ := hb.formb
  obtain ⟨G, O, rfl, _⟩ : ∃ G O, A = some ⟨G, O, none⟩ ∧ True := by
    obtain ⟨b, r, rfl⟩ := List.exists_cons_of_ne_nil hne
    obtain ⟨g, o, h, _⟩ := hb.at_.2.2.2 0 (.int .u8 (b.toNat : Int)) rfl
    exact ⟨g, o, h, trivial⟩
  have HO := hide (((Only.refl [] w).alloc (.cells (zeroM 0) 78)).alloc (.cells #[.slice (some ⟨G, O, none⟩) l.length cap] 117))
  have HRB := hide ((Blk.new w 78 (zeroM 0)).alloc (.cells #[.slice (some ⟨G, O, none⟩) l.length cap] 117))
  have HA := hide (show RdrAt ((w.alloc (.cells (zeroM 0) 78)).alloc (.cells #[.slice (some ⟨G, O, none⟩) l.length cap] 117)) [] (w.heap.size + 1) l from by
    have h := Blk.new (w.alloc (.cells (zeroM 0) 78)) 117 #[.slice (some ⟨G, O, none⟩) l.length cap]
    rw [World.size_alloc] at h
    exact ⟨G, O, cap, h, (hb.more (by intro x hx; rw [List.mem_singleton.1 hx]; right; omega)).only HO.out (by simp)⟩)
  unfold zeroM at HO HRB HA
  have HH := hide (fun W ha => head_w W [] (w.heap.size + 1) l hl ha)
  unfold HeadPost at HH
  rw [hh] at HH
  simp only at HH
  have HV2 := hide (show readV l = (c, zeroM 0) by rw [read_head (by rw [hh]; exact hc), hh])
  have hcb : (c != 0) = true := bne_iff_ne.2 hc
  clear hb hl hh hne hc
  go_enter Tryd.func61, Tryd.ntmps61
  go_wp2_with (go_at_call 75; refine (HH.out _ HA.out).mono ?_; rintro e w1 ⟨rfl, ho, ha⟩; replace HRB := hide (HRB.out.only ho (by simp)); replace HO := hide (((HO.out.mono (S' := [w.heap.size + 1]) (by simp)).trans ho).mono (S' := []) (by simp)); have r0 := HRB.out.cell 0; have r1 := HRB.out.cell 1; have r2 := HRB.out.cell 2; have r3 := HRB.out.cell 3; have r4 := HRB.out.cell 4; have r5 := HRB.out.cell 5; have r6 := HRB.out.cell 6; have r7 := HRB.out.cell 7; have r8 := HRB.out.cell 8; have r9 := HRB.out.cell 9; have r10 := HRB.out.cell 10; have r11 := HRB.out.cell 11; have r12 := HRB.out.cell 12; simp at r0 r1 r2 r3 r4 r5 r6 r7 r8 r9 r10 r11 r12; have rf := HRB.out.frozen; clear ho ha)
  refine bodyPost_ret (results_cell_two rfl _ _ w.heap.size 78 _ (0, 0) _ rfl (set13 HRB.out (.int .i64 0) (.int .u32 0) (.int .u32 0) (.int .u64 0) (.string ⟨#[]⟩) (.string ⟨#[]⟩) (.string ⟨#[]⟩) (.string ⟨#[]⟩) (.string ⟨#[]⟩) (.string ⟨#[]⟩) (.string ⟨#[]⟩) (.string ⟨#[]⟩) (.string ⟨#[]⟩)) Tryd.underlying78 rfl (by kernel_rfl)) rfl ?_
  exact readw HV2.out (only13 HO.out (.inr (Nat.le_refl _)) _ _ _ _ _ _ _ _ _ _ _ _ _)

theorem Read_any (w : World) (bv : Value) (l : List UInt8) (hl : l.length ≤ 1099511627776) (hb : Rd w [] bv (ints .u8 (byts l))) :
    Calls Tryd.prog 61 #[bv] w (ReadPostW (readV l) w) := by
  by_cases hne : l = []
  · subst hne
    obtain ⟨A, cap, rfl, _⟩ := hb.formb
    exact Read_nil w A cap
  · rcases head_cases l with ⟨c, hh, hc⟩ | ⟨k, q, hh, hk, hq, _⟩
    · exact Read_err w bv l hl c hh hc hne hb
    · rcases hk with rfl | rfl | rfl | rfl
      · exact Read_1 w bv l hl q hh hq hne hb
      · exact Read_2 w bv l hl q hh hq hne hb
      · exact Read_3 w bv l hl q hh hq hne hb
      · exact Read_4 w bv l hl q hh hq hne hb
end
section
open Go.RowKit Go.Deep

/-- The fields that are left, from the bytes that are left, into the cells so far. -/
def finF : List Nat → List UInt8 → Array Value → Int × Array Value
  | [], q, cs => if q = [] then (0, cs) else (5, zeroM 0)
  | i :: r, q, cs => if (fieldV i q).1 = 0 then finF r (fieldV i q).2.2 (cs.setIfInBounds i (fieldV i q).2.1) else ((fieldV i q).1, zeroM 0)
theorem finF_eq (is : List Nat) : ∀ (q : List UInt8) (cs : Array Value), (if (fieldsV is q cs).1 = 0 then (if (fieldsV is q cs).2.1 = [] then (0, (fieldsV is q cs).2.2) else (5, zeroM 0)) else ((fieldsV is q cs).1, zeroM 0)) = finF is q cs := by
  induction is with
  | nil => intro q cs; rfl
  | cons i r ih =>
    intro q cs
    unfold finF
    by_cases h : (fieldV i q).1 = 0
    · rw [if_pos h, ← ih]
      have e : fieldsV (i :: r) q cs = fieldsV r (fieldV i q).2.2 (cs.setIfInBounds i (fieldV i q).2.1) := if_pos h
      rw [e]
    · rw [if_neg h]
      have e : fieldsV (i :: r) q cs = ((fieldV i q).1, [], #[]) := if_neg h
      rw [e]
      exact if_neg h
theorem read_fin {l q : List UInt8} {k : Int} (h : headV l = (0, k, q)) : readV l = finF (rowL k) q (zeroM k) := by
  rw [read_kind h rfl, ← finF_eq]

/-- Values laid at places, one after the other. -/
def setL : List Nat → List Value → Array Value → Array Value
  | i :: is, v :: vs, cs => setL is vs (cs.setIfInBounds i v)
  | _, _, cs => cs
theorem setL_nil (is : List Nat) (cs : Array Value) : setL is [] cs = cs := by cases is <;> rfl
theorem setL_snoc (is : List Nat) : ∀ (vs : List Value) (cs : Array Value) (v : Value) (i : Nat), is[vs.length]? = some i → setL is (vs ++ [v]) cs = (setL is vs cs).setIfInBounds i v := by
  induction is with
  | nil => intro vs cs v i h; simp at h
  | cons a r ih =>
    intro vs cs v i h
    cases vs with
    | nil =>
      simp at h
      subst h
      simp only [List.nil_append, setL, setL_nil]
    | cons x vs =>
      simp only [List.length_cons, List.getElem?_cons_succ] at h
      simp only [List.cons_append, setL]
      exact ih vs _ v i h
/-- A number of a field as a cell. -/
def numc (i x : Nat) : Value := if i = 3 then .int .u64 x else .int .u32 x
def numsW (is ns : List Nat) : List Value := List.zipWith numc is ns
theorem numsW_snoc (is : List Nat) : ∀ (ns : List Nat) (x i : Nat), is[ns.length]? = some i → numsW is (ns ++ [x]) = numsW is ns ++ [numc i x] := by
  induction is with
  | nil => intro ns x i h; simp at h
  | cons a r ih =>
    intro ns x i h
    cases ns with
    | nil => simp at h; subst h; simp [numsW]
    | cons y ns =>
      simp only [List.length_cons, List.getElem?_cons_succ] at h
      have := ih ns x i h
      unfold numsW at this ⊢
      simp only [List.cons_append, List.zipWith_cons_cons, this]
theorem numsW_length (is ns : List Nat) (h : ns.length ≤ is.length) : (numsW is ns).length = ns.length := by
  unfold numsW
  rw [List.length_zipWith]; omega

/-- The sizes of the numbers of a kind, and how many texts it has. -/
def shapeV (k : Nat) : List Nat × Nat := if k = 1 then ([4], 5) else if k = 2 then ([4, 4], 4) else if k = 3 then ([4], 2) else ([4, 8], 1)
/-- Where the j-th field of a kind is a number. -/
theorem row_num {k : Nat} (h1 : 1 ≤ k) (h4 : k ≤ 4) {j : Nat} (hj : j < (shapeV k).1.length) :
    ∃ i, (rowL k)[j]? = some i ∧ (rowL k).drop j = i :: (rowL k).drop (j + 1) ∧ ∀ q, fieldV i q = ((numV ((shapeV k).1.getD j 0) q).1, numc i (numV ((shapeV k).1.getD j 0) q).2.1, (numV ((shapeV k).1.getD j 0) q).2.2) := by
  obtain rfl | rfl | rfl | rfl : k = 1 ∨ k = 2 ∨ k = 3 ∨ k = 4 := by omega
  · obtain rfl : j = 0 := by simp [shapeV] at hj; omega
    exact ⟨1, rfl, rfl, fun q => rfl⟩
  · obtain rfl | rfl : j = 0 ∨ j = 1 := by simp [shapeV] at hj; omega
    · exact ⟨1, rfl, rfl, fun q => rfl⟩
    · exact ⟨2, rfl, rfl, fun q => rfl⟩
  · obtain rfl : j = 0 := by simp [shapeV] at hj; omega
    exact ⟨2, rfl, rfl, fun q => rfl⟩
  · obtain rfl | rfl : j = 0 ∨ j = 1 := by simp [shapeV] at hj; omega
    · exact ⟨2, rfl, rfl, fun q => rfl⟩
    · exact ⟨3, rfl, rfl, fun q => rfl⟩
/-- Where it is a text. -/
theorem row_text {k : Nat} (h1 : 1 ≤ k) (h4 : k ≤ 4) {t : Nat} (ht : t < (shapeV k).2) :
    ∃ i, (rowL k)[(shapeV k).1.length + t]? = some i ∧ (rowL k).drop ((shapeV k).1.length + t) = i :: (rowL k).drop ((shapeV k).1.length + (t + 1)) ∧ ∀ q, fieldV i q = ((textV q).1, .string (textV q).2.1, (textV q).2.2) := by
  obtain rfl | rfl | rfl | rfl : k = 1 ∨ k = 2 ∨ k = 3 ∨ k = 4 := by omega
  · obtain rfl | rfl | rfl | rfl | rfl : t = 0 ∨ t = 1 ∨ t = 2 ∨ t = 3 ∨ t = 4 := by simp [shapeV] at ht; omega
    all_goals exact ⟨_, rfl, rfl, fun q => rfl⟩
  · obtain rfl | rfl | rfl | rfl : t = 0 ∨ t = 1 ∨ t = 2 ∨ t = 3 := by simp [shapeV] at ht; omega
    all_goals exact ⟨_, rfl, rfl, fun q => rfl⟩
  · obtain rfl | rfl : t = 0 ∨ t = 1 := by simp [shapeV] at ht; omega
    all_goals exact ⟨_, rfl, rfl, fun q => rfl⟩
  · obtain rfl : t = 0 := by simp [shapeV] at ht; omega
    exact ⟨_, rfl, rfl, fun q => rfl⟩
theorem row_end {k : Nat} (h1 : 1 ≤ k) (h4 : k ≤ 4) : (rowL k).drop ((shapeV k).1.length + (shapeV k).2) = [] := by
  obtain rfl | rfl | rfl | rfl : k = 1 ∨ k = 2 ∨ k = 3 ∨ k = 4 := by omega
  all_goals rfl

/-- How far the reading is. -/
def stageV (k : Nat) (ns : List Nat) (ts : List ByteArray) (q : List UInt8) : Int × Array Value :=
  finF ((rowL k).drop (ns.length + ts.length)) q (setL (rowL k) (numsW (rowL k) ns ++ ts.map .string) (zeroM k))
theorem stage_start {k : Nat} {l q : List UInt8} (h : headV l = (0, (k : Int), q)) : readV l = stageV k [] [] q := by
  rw [read_fin h]
  unfold stageV numsW
  simp [setL_nil]
theorem shape_len {k : Nat} (h1 : 1 ≤ k) (h4 : k ≤ 4) : (shapeV k).1.length + (shapeV k).2 = (rowL k).length := by
  obtain rfl | rfl | rfl | rfl : k = 1 ∨ k = 2 ∨ k = 3 ∨ k = 4 := by omega
  all_goals rfl
/-- A number more, or there is none. -/
theorem stage_num {k : Nat} (h1 : 1 ≤ k) (h4 : k ≤ 4) {ns : List Nat} (hj : ns.length < (shapeV k).1.length) (q : List UInt8) :
    stageV k ns [] q = if q.length < (shapeV k).1.getD ns.length 0 then (4, zeroM 0) else stageV k (ns ++ [lowV (q.take ((shapeV k).1.getD ns.length 0))]) [] (q.drop ((shapeV k).1.getD ns.length 0)) := by
  obtain ⟨i, hi, hd, hf⟩ := row_num h1 h4 hj
  have hlen := shape_len h1 h4
  unfold stageV
  rw [List.length_nil, Nat.add_zero, hd]
  conv => lhs; unfold finF
  rw [hf]
  unfold numV
  by_cases h : q.length < (shapeV k).1.getD ns.length 0
  · simp only [if_pos h]
    rfl
  · simp only [if_neg h, if_true, List.length_append, List.length_singleton, Nat.add_zero, List.map_nil, List.append_nil]
    rw [numsW_snoc _ _ _ _ hi, setL_snoc (i := i) _ _ _ _ (by rw [numsW_length _ _ (by omega)]; exact hi)]
/-- A text more, or there is none. -/
theorem stage_text {k : Nat} (h1 : 1 ≤ k) (h4 : k ≤ 4) {ns : List Nat} (hn : ns.length = (shapeV k).1.length) {ts : List ByteArray} (ht : ts.length < (shapeV k).2) (q : List UInt8) :
    stageV k ns ts q = if (textV q).1 = 0 then stageV k ns (ts ++ [(textV q).2.1]) (textV q).2.2 else ((textV q).1, zeroM 0) := by
  obtain ⟨i, hi, hd, hf⟩ := row_text h1 h4 ht
  have hlen := shape_len h1 h4
  unfold stageV
  rw [hn, hd]
  conv => lhs; unfold finF
  rw [hf]
  by_cases h : (textV q).1 = 0
  · simp only [if_pos h, List.length_append, List.length_singleton, List.map_append, List.map_cons, List.map_nil]
    rw [← List.append_assoc, setL_snoc (i := i) _ _ _ _ (by rw [List.length_append, numsW_length _ _ (by omega), List.length_map, hn]; exact hi)]
  · simp only [if_neg h]
theorem stage_end {k : Nat} (h1 : 1 ≤ k) (h4 : k ≤ 4) {ns : List Nat} (hn : ns.length = (shapeV k).1.length) {ts : List ByteArray} (ht : ts.length = (shapeV k).2) (q : List UInt8) :
    stageV k ns ts q = if q = [] then (0, setL (rowL k) (numsW (rowL k) ns ++ ts.map .string) (zeroM k)) else (5, zeroM 0) := by
  unfold stageV
  rw [hn, ht, row_end h1 h4]
  rfl
def strc (ts : List ByteArray) : List Value := ts.map .string
theorem strc_snoc (ts : List ByteArray) (s : ByteArray) : strc ts ++ [.string s] = strc (ts ++ [s]) := by simp [strc]
end
section
open Go.RowKit Go.Deep

/-- A message. -/
structure Mg where
  k : Int
  s : Nat
  r : Nat
  c : Nat
  x4 : ByteArray
  x5 : ByteArray
  x6 : ByteArray
  x7 : ByteArray
  x8 : ByteArray
  x9 : ByteArray
  x10 : ByteArray
  x11 : ByteArray
  x12 : ByteArray
/-- Its cells. -/
def Mg.cells (m : Mg) : Array Value := #[.int .i64 m.k, .int .u32 m.s, .int .u32 m.r, .int .u64 m.c, .string m.x4, .string m.x5, .string m.x6, .string m.x7, .string m.x8, .string m.x9, .string m.x10, .string m.x11, .string m.x12]
def eqM (m n : Mg) : Bool := m.k == n.k && m.s == n.s && m.r == n.r && m.c == n.c && m.x4.toList == n.x4.toList && m.x5.toList == n.x5.toList && m.x6.toList == n.x6.toList && m.x7.toList == n.x7.toList && m.x8.toList == n.x8.toList && m.x9.toList == n.x9.toList && m.x10.toList == n.x10.toList && m.x11.toList == n.x11.toList && m.x12.toList == n.x12.toList
theorem toList_inj {a b : ByteArray} (h : a.toList = b.toList) : a = b := by
  rw [ByteArray.toList_eq, ByteArray.toList_eq] at h
  obtain ⟨⟨x⟩⟩ := a
  obtain ⟨⟨y⟩⟩ := b
  exact congrArg (fun z => (⟨⟨z⟩⟩ : ByteArray)) h
theorem eqM_iff (m n : Mg) : eqM m n = true ↔ m = n := by
  constructor
  · intro h
    obtain ⟨k, s, r, c, x4, x5, x6, x7, x8, x9, x10, x11, x12⟩ := m
    obtain ⟨k', s', r', c', y4, y5, y6, y7, y8, y9, y10, y11, y12⟩ := n
    simp only [eqM, Bool.and_eq_true, beq_iff_eq] at h
    obtain ⟨⟨⟨⟨⟨⟨⟨⟨⟨⟨⟨⟨h0, h1⟩, h2⟩, h3⟩, h4⟩, h5⟩, h6⟩, h7⟩, h8⟩, h9⟩, h10⟩, h11⟩, h12⟩ := h
    rw [h0, h1, h2, h3, toList_inj h4, toList_inj h5, toList_inj h6, toList_inj h7, toList_inj h8, toList_inj h9, toList_inj h10, toList_inj h11, toList_inj h12]
  · rintro rfl
    simp [eqM]
end
section
open Go.RowKit Go.Deep

def noT : ByteArray := ⟨#[]⟩
/-- The texts of a message's row. -/
def textsM (m : Mg) : List ByteArray := if m.k = 1 then [m.x4, m.x5, m.x6, m.x11, m.x12] else if m.k = 2 then [m.x4, m.x7, m.x11, m.x12] else if m.k = 3 then [m.x8, m.x9] else [m.x10]
/-- The message with the fields of its row alone. -/
def onlyM (m : Mg) : Mg :=
  if m.k = 1 then ⟨1, m.s, 0, 0, m.x4, m.x5, m.x6, noT, noT, noT, noT, m.x11, m.x12⟩
  else if m.k = 2 then ⟨2, m.s, m.r, 0, m.x4, noT, noT, m.x7, noT, noT, noT, m.x11, m.x12⟩
  else if m.k = 3 then ⟨3, 0, m.r, 0, noT, noT, noT, noT, m.x8, m.x9, noT, noT, noT⟩
  else ⟨4, 0, m.r, m.c, noT, noT, noT, noT, noT, noT, m.x10, noT, noT⟩
/-- Is it a message? -/
def rightM (m : Mg) : Bool := decide (1 ≤ m.k ∧ m.k ≤ 4) && ((textsM m).all fitW && eqM (onlyM m) m)
/-- What fits the machine. -/
structure Mg.Fine (m : Mg) : Prop where
  s : m.s < 4294967296
  r : m.r < 4294967296
  c : m.c < 18446744073709551616
  x4 : m.x4.size ≤ maxLen
  x5 : m.x5.size ≤ maxLen
  x6 : m.x6.size ≤ maxLen
  x7 : m.x7.size ≤ maxLen
  x8 : m.x8.size ≤ maxLen
  x9 : m.x9.size ≤ maxLen
  x10 : m.x10.size ≤ maxLen
  x11 : m.x11.size ≤ maxLen
  x12 : m.x12.size ≤ maxLen
end
section
open Go.RowKit Go.Deep

/-- A number's bytes, the lowest first. -/
def lowB : Nat → Nat → List UInt8
  | 0, _ => []
  | n + 1, u => UInt8.ofNat (u % 256) :: lowB n (u / 256)
theorem lowB_length (n u : Nat) : (lowB n u).length = n := by
  induction n generalizing u with
  | zero => rfl
  | succ n ih => rw [lowB, List.length_cons, ih]
theorem lowB_snoc (n u : Nat) : lowB (n + 1) u = lowB n u ++ [UInt8.ofNat (u / 256 ^ n % 256)] := by
  induction n generalizing u with
  | zero => simp [lowB]
  | succ n ih =>
    rw [lowB, ih (u / 256), lowB, List.cons_append]
    congr 3
    rw [Nat.div_div_eq_div_mul, Nat.pow_succ, Nat.mul_comm]
theorem lowV_lowB (n u : Nat) (h : u < 256 ^ n) : lowV (lowB n u) = u := by
  induction n generalizing u with
  | zero => simp at h; subst h; rfl
  | succ n ih =>
    rw [lowB, lowV, ih (u / 256) (by rw [Nat.pow_succ] at h; omega)]
    simp only [UInt8.toNat_ofNat']
    omega
theorem lowB_lowV (l : List UInt8) : lowB l.length (lowV l) = l := by
  induction l with
  | nil => rfl
  | cons b r ih =>
    have hb := b.toNat_lt
    rw [List.length_cons, lowB, lowV, show (b.toNat + 256 * lowV r) / 256 = lowV r by omega, ih, show (b.toNat + 256 * lowV r) % 256 = b.toNat by omega]
    congr 1
    simp
theorem ints_append (k : IntKind) (a b : List Int) : ints k (a ++ b) = ints k a ++ ints k b := by simp [ints]
theorem below_refl_ (B : Nat) (w : World) : Below B w w := ⟨rfl, rfl, rfl, Nat.le_refl _, fun _ _ => rfl⟩
theorem below_grown_ {B : Nat} {w w' w2 : World} (h : Below B w w') {row : Option Nat} (hg : w'.grownBy w2 row) (hr : ∀ k, row = some k → B ≤ k) (hB : B ≤ w'.heap.size) : Below B w w2 :=
  ⟨hg.os.trans h.os, hg.tape.trans h.tape, hg.output.trans h.output, Nat.le_trans h.size hg.size, fun i hi => (hg.block i (by omega) (fun e => by have := hr i e.symm; omega)).trans (h.block i hi)⟩
end
end Go.Proofs.YteoifokmbkpbnaaDoor

/-
  Walks and plain words for WirePrints (texts Wf4, Wg, Wi0, Msg, Wj0, Wk, Wl0). No condition beyond those that each theorem states.
-/
import Derived.Test.YtfmfnfmhknlpbaaDoorChecked
import Derived.Laws.StructEq
import Derived.Lib.AppendStr
import Derived.Test.YtfmfnfmhknlpbaaDoorP07
namespace Go.Proofs.YtfmfnfmhknlpbaaDoor
section
open Go.RowKit Go.Deep

set_option maxRecDepth 100000 in
set_option maxHeartbeats 12800000 in
theorem Read_4 (w : World) (bv : Value) (l : List UInt8) (hl : l.length ≤ 1099511627776) (l0 : List UInt8) (hh : headV l = (0, 4, l0)) (hll : l0.length ≤ l.length) (hne : l ≠ []) (hb : Rd w [] bv (ints .u8 (byts l))) :
    Calls Tryd.prog 40 #[bv] w (ReadPostW (readV l) w) := by
  obtain ⟨A, cap, rfl, hc1, hc2⟩ := hb.formb
  obtain ⟨G, O, rfl, _⟩ : ∃ G O, A = some ⟨G, O, none⟩ ∧ True := by
    obtain ⟨b, r, rfl⟩ := List.exists_cons_of_ne_nil hne
    obtain ⟨g, o, h, _⟩ := hb.at_.2.2.2 0 (.int .u8 (b.toNat : Int)) rfl
    exact ⟨g, o, h, trivial⟩
  have HO := hide (((Only.refl [] w).alloc (.cells (zeroM 0) 53)).alloc (.cells #[.slice (some ⟨G, O, none⟩) l.length cap] 104))
  have HRB := hide ((Blk.new w 53 (zeroM 0)).alloc (.cells #[.slice (some ⟨G, O, none⟩) l.length cap] 104))
  have HA := hide (show RdrAt ((w.alloc (.cells (zeroM 0) 53)).alloc (.cells #[.slice (some ⟨G, O, none⟩) l.length cap] 104)) [] (w.heap.size + 1) l from by
    have h := Blk.new (w.alloc (.cells (zeroM 0) 53)) 104 #[.slice (some ⟨G, O, none⟩) l.length cap]
    rw [World.size_alloc] at h
    exact ⟨G, O, cap, h, (hb.more (by intro x hx; rw [List.mem_singleton.1 hx]; right; omega)).only HO.out (by simp)⟩)
  unfold zeroM at HO HRB HA
  have HH := hide (fun W ha => head_w W [] (w.heap.size + 1) l hl ha)
  unfold HeadPost at HH
  rw [hh] at HH
  simp only at HH
  have HRW := hide (fun W => row_4 W)
  unfold RowPost at HRW
  have HF0 := hide (show readV l = _ from read_kind hh rfl)
  have hl0 : l0.length ≤ 1099511627776 := by omega
  have HL0 := hide hl0
  have hst := fun (W : World) (a : Addr) (fn : Fn) (c : Array Value) => (run_store Tryd.prog W a (.func fn #[] c) .plain rfl : (store a (.func fn #[] c)).run Tryd.prog W = stored Tryd.prog W a (.func fn #[] c) .plain)
  have hsn := fun (W : World) (a : Addr) => (run_store Tryd.prog W a .nilFunc .plain rfl : (store a .nilFunc).run Tryd.prog W = stored Tryd.prog W a .nilFunc .plain)
  clear hb hl hh hll hne hl0
  go_enter Tryd.func40, Tryd.ntmps40
  go_wp2_with (first
    | (go_at_call 73; refine (HH.out _ HA.out).mono ?_; rintro e w1 ⟨rfl, ho, ha⟩; have HRB := hide (HRB.out.only ho (by simp)); have HO := hide (((HO.out.mono (S' := [w.heap.size + 1]) (by simp)).trans ho).mono (S' := []) (by simp)); have HZ := hide ho.size; have HM := hide (Blk.new w1 53 #[.int .i64 4, .int .u32 0, .int .u32 0, .int .u64 0, .string ⟨#[]⟩, .string ⟨#[]⟩, .string ⟨#[]⟩, .string ⟨#[]⟩, .string ⟨#[]⟩, .string ⟨#[]⟩, .string ⟨#[]⟩, .string ⟨#[]⟩, .string ⟨#[]⟩]); have HA := hide (((ha (by trivial)).more (N' := [w1.heap.size]) (by intro x hx; right; rw [List.mem_singleton.1 hx]; exact Nat.le_refl _)).only ((Only.refl [] w1).alloc (.cells #[.int .i64 4, .int .u32 0, .int .u32 0, .int .u64 0, .string ⟨#[]⟩, .string ⟨#[]⟩, .string ⟨#[]⟩, .string ⟨#[]⟩, .string ⟨#[]⟩, .string ⟨#[]⟩, .string ⟨#[]⟩, .string ⟨#[]⟩, .string ⟨#[]⟩] 53)) (by simp) (by simp)); have HRB := hide (HRB.out.alloc (.cells #[.int .i64 4, .int .u32 0, .int .u32 0, .int .u64 0, .string ⟨#[]⟩, .string ⟨#[]⟩, .string ⟨#[]⟩, .string ⟨#[]⟩, .string ⟨#[]⟩, .string ⟨#[]⟩, .string ⟨#[]⟩, .string ⟨#[]⟩, .string ⟨#[]⟩] 53)); have HO := hide (HO.out.alloc (.cells #[.int .i64 4, .int .u32 0, .int .u32 0, .int .u64 0, .string ⟨#[]⟩, .string ⟨#[]⟩, .string ⟨#[]⟩, .string ⟨#[]⟩, .string ⟨#[]⟩, .string ⟨#[]⟩, .string ⟨#[]⟩, .string ⟨#[]⟩, .string ⟨#[]⟩] 53)); clear ho ha)
    | (go_at_call 74; refine (HRW.out _).mono ?_; rintro e w2 ⟨gr, b1, b2, rfl, hgr, hb1, hb2, hrow, hx1, hx2, ho⟩; have HROW := hide hrow; have HX1 := hide hx1; have HX2 := hide hx2; have HGR := hide hgr; have HB1 := hide hb1; have HB2 := hide hb2; have HM := hide (HM.out.only ho (by simp)); have HA := hide (HA.out.only ho (by simp) (by simp)); have HRB := hide (HRB.out.only ho (by simp)); have HO := hide (HO.out.trans ho); clear hgr hb1 hb2 hrow hx1 hx2 ho))
  have hd : w.heap.size + 1 + 1 ≤ w1.heap.size ∧ w1.heap.size < gr ∧ w1.heap.size < b1 ∧ w1.heap.size < b2 := by
    have h1 := HZ.out; have h2 := HGR.out; have h3 := HB1.out; have h4 := HB2.out
    simp only [World.size_alloc] at h1 h2 h3 h4
    omega
  have HD := hide hd
  have HF1 := hide (show fieldsV (rowL 4) l0 (zeroM 4) = fieldsV [2, 3, 10] l0 #[.int .i64 4, .int .u32 0, .int .u32 0, .int .u64 0, .string ⟨#[]⟩, .string ⟨#[]⟩, .string ⟨#[]⟩, .string ⟨#[]⟩, .string ⟨#[]⟩, .string ⟨#[]⟩, .string ⟨#[]⟩, .string ⟨#[]⟩, .string ⟨#[]⟩] from rfl)
  clear hd HZ HGR HB1 HB2
  refine wp_loop_rounds 4 ?_
  rw [rounds_succ]
  have a0 := HROW.out.cell 0; have a1 := HROW.out.cell 1; have a2 := HROW.out.cell 2; have a3 := HROW.out.cell 3
  simp [row4C, numC, txtC, cntC] at a0 a1 a2 a3
  obtain ⟨⟨c, x0, l1⟩, hr⟩ : ∃ r, numV 4 l0 = r := ⟨_, rfl⟩
  have HL1 := hide (show l1.length ≤ 1099511627776 by have h := num_len 4 l0; rw [hr] at h; have := HL0.out; simp only at h; omega)
  have hfv : fieldV 2 l0 = (c, .int .u32 (x0 : Nat), l1) := by have e : fieldV 2 l0 = ((numV 4 l0).1, .int .u32 ((numV 4 l0).2.1 : Nat), (numV 4 l0).2.2) := rfl; rw [e, hr]
  have HFD := hide (fun W (ha : RdrAt W [w1.heap.size] (w.heap.size + 1) l0) (hm : Blk W w1.heap.size 53 #[.int .i64 4, .int .u32 0, .int .u32 0, .int .u64 0, .string ⟨#[]⟩, .string ⟨#[]⟩, .string ⟨#[]⟩, .string ⟨#[]⟩, .string ⟨#[]⟩, .string ⟨#[]⟩, .string ⟨#[]⟩, .string ⟨#[]⟩, .string ⟨#[]⟩]) (hx : Blk W b2 _ _) => field_r W [w1.heap.size] (w.heap.size + 1) w1.heap.size b2 l0 HL0.out #[.int .i64 4, .int .u32 0, .int .u32 0, .int .u64 0, .string ⟨#[]⟩, .string ⟨#[]⟩, .string ⟨#[]⟩, .string ⟨#[]⟩, .string ⟨#[]⟩, .string ⟨#[]⟩, .string ⟨#[]⟩, .string ⟨#[]⟩, .string ⟨#[]⟩] (y := 0) rfl ha (by simp) (by have := HD.out; omega) hm hx (by have := HD.out; omega))
  unfold FieldPost at HFD
  rw [hr] at HFD
  simp only at HFD
  by_cases hc : c = 0
  case neg =>
    have hcb : (c != 0) = true := bne_iff_ne.2 hc
    have HV2 := hide (show readV l = (c, zeroM 0) by rw [HF0.out, HF1.out, fields_no hfv hc]; exact if_neg hc)
    clear hc hfv hr
    go_wp2_with (go_at_call 75; refine (HFD.out _ (HA.out.only ((Only.refl [] _).alloc _) (by simp) (by simp)) (HM.out.alloc _) (HX2.out.alloc _)).mono ?_; rintro e w3 ⟨rfl, ho, hz⟩; (first | clear r0 r1 r2 r3 r4 r5 r6 r7 r8 r9 r10 r11 r12 rf | skip); replace HRB := hide ((HRB.out.alloc _).only ho (by have := HD.out; simp; omega)); replace HO := hide ((((HO.out.alloc _).mono (S' := [w.heap.size + 1, w1.heap.size]) (by simp)).trans ho).mono (S' := []) (by have := HD.out; simp; omega)); have r0 := HRB.out.cell 0; have r1 := HRB.out.cell 1; have r2 := HRB.out.cell 2; have r3 := HRB.out.cell 3; have r4 := HRB.out.cell 4; have r5 := HRB.out.cell 5; have r6 := HRB.out.cell 6; have r7 := HRB.out.cell 7; have r8 := HRB.out.cell 8; have r9 := HRB.out.cell 9; have r10 := HRB.out.cell 10; have r11 := HRB.out.cell 11; have r12 := HRB.out.cell 12; simp at r0 r1 r2 r3 r4 r5 r6 r7 r8 r9 r10 r11 r12; have rf := HRB.out.frozen; clear ho hz)
    refine bodyPost_ret (results_cell_two rfl _ _ w.heap.size 53 _ (0, 0) _ rfl (set13 HRB.out (.int .i64 0) (.int .u32 0) (.int .u32 0) (.int .u64 0) (.string ⟨#[]⟩) (.string ⟨#[]⟩) (.string ⟨#[]⟩) (.string ⟨#[]⟩) (.string ⟨#[]⟩) (.string ⟨#[]⟩) (.string ⟨#[]⟩) (.string ⟨#[]⟩) (.string ⟨#[]⟩)) Tryd.underlying53 rfl (by kernel_rfl)) rfl ?_
    exact readw HV2.out (only13 HO.out (.inr (Nat.le_refl _)) (.int .i64 0) (.int .u32 0) (.int .u32 0) (.int .u64 0) (.string ⟨#[]⟩) (.string ⟨#[]⟩) (.string ⟨#[]⟩) (.string ⟨#[]⟩) (.string ⟨#[]⟩) (.string ⟨#[]⟩) (.string ⟨#[]⟩) (.string ⟨#[]⟩) (.string ⟨#[]⟩))
  subst hc
  have HF2 := hide (show fieldsV (rowL 4) l0 (zeroM 4) = fieldsV [3, 10] l1 #[.int .i64 4, .int .u32 0, .int .u32 (x0 : Nat), .int .u64 0, .string ⟨#[]⟩, .string ⟨#[]⟩, .string ⟨#[]⟩, .string ⟨#[]⟩, .string ⟨#[]⟩, .string ⟨#[]⟩, .string ⟨#[]⟩, .string ⟨#[]⟩, .string ⟨#[]⟩] by rw [HF1.out, fields_yes hfv]; rfl)
  clear hfv hr
  go_wp2_with (go_at_call 75; refine (HFD.out _ (HA.out.only ((Only.refl [] _).alloc _) (by simp) (by simp)) (HM.out.alloc _) (HX2.out.alloc _)).mono ?_; rintro e w3 ⟨rfl, ho, hz⟩; (first | clear r0 r1 r2 r3 r4 r5 r6 r7 r8 r9 r10 r11 r12 rf | skip); replace HRB := hide ((HRB.out.alloc _).only ho (by have := HD.out; simp; omega)); replace HO := hide ((((HO.out.alloc _).mono (S' := [w.heap.size + 1, w1.heap.size]) (by simp)).trans ho).mono (S' := []) (by have := HD.out; simp; omega)); have r0 := HRB.out.cell 0; have r1 := HRB.out.cell 1; have r2 := HRB.out.cell 2; have r3 := HRB.out.cell 3; have r4 := HRB.out.cell 4; have r5 := HRB.out.cell 5; have r6 := HRB.out.cell 6; have r7 := HRB.out.cell 7; have r8 := HRB.out.cell 8; have r9 := HRB.out.cell 9; have r10 := HRB.out.cell 10; have r11 := HRB.out.cell 11; have r12 := HRB.out.cell 12; simp at r0 r1 r2 r3 r4 r5 r6 r7 r8 r9 r10 r11 r12; have rf := HRB.out.frozen; obtain ⟨ha, hm⟩ := hz (by trivial); replace HA := hide ha; replace HM := hide hm; replace HROW := hide ((HROW.out.alloc _).only ho (by have := HD.out; simp; omega)); replace HX1 := hide ((HX1.out.alloc _).only ho (by have := HD.out; simp; omega)); replace HX2 := hide ((HX2.out.alloc _).only ho (by have := HD.out; simp; omega)); clear ho hz ha hm)
  clear a0 a1 a2 a3 HFD
  rw [rounds_succ]
  have a0 := HROW.out.cell 4; have a1 := HROW.out.cell 5; have a2 := HROW.out.cell 6; have a3 := HROW.out.cell 7
  simp [row4C, numC, txtC, cntC] at a0 a1 a2 a3
  obtain ⟨⟨c, x1, l2⟩, hr⟩ : ∃ r, numV 8 l1 = r := ⟨_, rfl⟩
  have HL2 := hide (show l2.length ≤ 1099511627776 by have h := num_len 8 l1; rw [hr] at h; have := HL1.out; simp only at h; omega)
  have hfv : fieldV 3 l1 = (c, .int .u64 (x1 : Nat), l2) := by have e : fieldV 3 l1 = ((numV 8 l1).1, .int .u64 ((numV 8 l1).2.1 : Nat), (numV 8 l1).2.2) := rfl; rw [e, hr]
  have HFD := hide (fun W (ha : RdrAt W [w1.heap.size] (w.heap.size + 1) l1) (hm : Blk W w1.heap.size 53 #[.int .i64 4, .int .u32 0, .int .u32 (x0 : Nat), .int .u64 0, .string ⟨#[]⟩, .string ⟨#[]⟩, .string ⟨#[]⟩, .string ⟨#[]⟩, .string ⟨#[]⟩, .string ⟨#[]⟩, .string ⟨#[]⟩, .string ⟨#[]⟩, .string ⟨#[]⟩]) => field_c W [w1.heap.size] (w.heap.size + 1) w1.heap.size l1 HL1.out #[.int .i64 4, .int .u32 0, .int .u32 (x0 : Nat), .int .u64 0, .string ⟨#[]⟩, .string ⟨#[]⟩, .string ⟨#[]⟩, .string ⟨#[]⟩, .string ⟨#[]⟩, .string ⟨#[]⟩, .string ⟨#[]⟩, .string ⟨#[]⟩, .string ⟨#[]⟩] (y := 0) rfl ha (by simp) (by have := HD.out; omega) hm)
  unfold FieldPost at HFD
  rw [hr] at HFD
  simp only at HFD
  by_cases hc : c = 0
  case neg =>
    have hcb : (c != 0) = true := bne_iff_ne.2 hc
    have HV2 := hide (show readV l = (c, zeroM 0) by rw [HF0.out, HF2.out, fields_no hfv hc]; exact if_neg hc)
    clear hc hfv hr
    go_wp2_with (go_at_call 75; refine (HFD.out _ (HA.out.only ((Only.refl [] _).alloc _) (by simp) (by simp)) (HM.out.alloc _)).mono ?_; rintro e w3 ⟨rfl, ho, hz⟩; (first | clear r0 r1 r2 r3 r4 r5 r6 r7 r8 r9 r10 r11 r12 rf | skip); replace HRB := hide ((HRB.out.alloc _).only ho (by have := HD.out; simp; omega)); replace HO := hide ((((HO.out.alloc _).mono (S' := [w.heap.size + 1, w1.heap.size]) (by simp)).trans ho).mono (S' := []) (by have := HD.out; simp; omega)); have r0 := HRB.out.cell 0; have r1 := HRB.out.cell 1; have r2 := HRB.out.cell 2; have r3 := HRB.out.cell 3; have r4 := HRB.out.cell 4; have r5 := HRB.out.cell 5; have r6 := HRB.out.cell 6; have r7 := HRB.out.cell 7; have r8 := HRB.out.cell 8; have r9 := HRB.out.cell 9; have r10 := HRB.out.cell 10; have r11 := HRB.out.cell 11; have r12 := HRB.out.cell 12; simp at r0 r1 r2 r3 r4 r5 r6 r7 r8 r9 r10 r11 r12; have rf := HRB.out.frozen; clear ho hz)
    refine bodyPost_ret (results_cell_two rfl _ _ w.heap.size 53 _ (0, 0) _ rfl (set13 HRB.out (.int .i64 0) (.int .u32 0) (.int .u32 0) (.int .u64 0) (.string ⟨#[]⟩) (.string ⟨#[]⟩) (.string ⟨#[]⟩) (.string ⟨#[]⟩) (.string ⟨#[]⟩) (.string ⟨#[]⟩) (.string ⟨#[]⟩) (.string ⟨#[]⟩) (.string ⟨#[]⟩)) Tryd.underlying53 rfl (by kernel_rfl)) rfl ?_
    exact readw HV2.out (only13 HO.out (.inr (Nat.le_refl _)) (.int .i64 0) (.int .u32 0) (.int .u32 0) (.int .u64 0) (.string ⟨#[]⟩) (.string ⟨#[]⟩) (.string ⟨#[]⟩) (.string ⟨#[]⟩) (.string ⟨#[]⟩) (.string ⟨#[]⟩) (.string ⟨#[]⟩) (.string ⟨#[]⟩) (.string ⟨#[]⟩))
  subst hc
  have HF3 := hide (show fieldsV (rowL 4) l0 (zeroM 4) = fieldsV [10] l2 #[.int .i64 4, .int .u32 0, .int .u32 (x0 : Nat), .int .u64 (x1 : Nat), .string ⟨#[]⟩, .string ⟨#[]⟩, .string ⟨#[]⟩, .string ⟨#[]⟩, .string ⟨#[]⟩, .string ⟨#[]⟩, .string ⟨#[]⟩, .string ⟨#[]⟩, .string ⟨#[]⟩] by rw [HF2.out, fields_yes hfv]; rfl)
  clear hfv hr
  go_wp2_with (go_at_call 75; refine (HFD.out _ (HA.out.only ((Only.refl [] _).alloc _) (by simp) (by simp)) (HM.out.alloc _)).mono ?_; rintro e w3 ⟨rfl, ho, hz⟩; (first | clear r0 r1 r2 r3 r4 r5 r6 r7 r8 r9 r10 r11 r12 rf | skip); replace HRB := hide ((HRB.out.alloc _).only ho (by have := HD.out; simp; omega)); replace HO := hide ((((HO.out.alloc _).mono (S' := [w.heap.size + 1, w1.heap.size]) (by simp)).trans ho).mono (S' := []) (by have := HD.out; simp; omega)); have r0 := HRB.out.cell 0; have r1 := HRB.out.cell 1; have r2 := HRB.out.cell 2; have r3 := HRB.out.cell 3; have r4 := HRB.out.cell 4; have r5 := HRB.out.cell 5; have r6 := HRB.out.cell 6; have r7 := HRB.out.cell 7; have r8 := HRB.out.cell 8; have r9 := HRB.out.cell 9; have r10 := HRB.out.cell 10; have r11 := HRB.out.cell 11; have r12 := HRB.out.cell 12; simp at r0 r1 r2 r3 r4 r5 r6 r7 r8 r9 r10 r11 r12; have rf := HRB.out.frozen; obtain ⟨ha, hm⟩ := hz (by trivial); replace HA := hide ha; replace HM := hide hm; replace HROW := hide ((HROW.out.alloc _).only ho (by have := HD.out; simp; omega)); replace HX1 := hide ((HX1.out.alloc _).only ho (by have := HD.out; simp; omega)); replace HX2 := hide ((HX2.out.alloc _).only ho (by have := HD.out; simp; omega)); clear ho hz ha hm)
  clear a0 a1 a2 a3 HFD
  rw [rounds_succ]
  have a0 := HROW.out.cell 8; have a1 := HROW.out.cell 9; have a2 := HROW.out.cell 10; have a3 := HROW.out.cell 11
  simp [row4C, numC, txtC, cntC] at a0 a1 a2 a3
  obtain ⟨⟨c, x2, l3⟩, hr⟩ : ∃ r, textV l2 = r := ⟨_, rfl⟩
  have HL3 := hide (show l3.length ≤ 1099511627776 by have h := text_len l2; rw [hr] at h; have := HL2.out; simp only at h; omega)
  have hfv : fieldV 10 l2 = (c, .string x2, l3) := by have e : fieldV 10 l2 = ((textV l2).1, .string (textV l2).2.1, (textV l2).2.2) := rfl; rw [e, hr]
  have HFD := hide (fun W (ha : RdrAt W [w1.heap.size] (w.heap.size + 1) l2) (hm : Blk W w1.heap.size 53 #[.int .i64 4, .int .u32 0, .int .u32 (x0 : Nat), .int .u64 (x1 : Nat), .string ⟨#[]⟩, .string ⟨#[]⟩, .string ⟨#[]⟩, .string ⟨#[]⟩, .string ⟨#[]⟩, .string ⟨#[]⟩, .string ⟨#[]⟩, .string ⟨#[]⟩, .string ⟨#[]⟩]) => field_10 W [w1.heap.size] (w.heap.size + 1) w1.heap.size l2 HL2.out #[.int .i64 4, .int .u32 0, .int .u32 (x0 : Nat), .int .u64 (x1 : Nat), .string ⟨#[]⟩, .string ⟨#[]⟩, .string ⟨#[]⟩, .string ⟨#[]⟩, .string ⟨#[]⟩, .string ⟨#[]⟩, .string ⟨#[]⟩, .string ⟨#[]⟩, .string ⟨#[]⟩] rfl ha (by simp) (by have := HD.out; omega) hm)
  unfold FieldPost at HFD
  rw [hr] at HFD
  simp only at HFD
  by_cases hc : c = 0
  case neg =>
    have hcb : (c != 0) = true := bne_iff_ne.2 hc
    have HV2 := hide (show readV l = (c, zeroM 0) by rw [HF0.out, HF3.out, fields_no hfv hc]; exact if_neg hc)
    clear hc hfv hr
    go_wp2_with (go_at_call 75; refine (HFD.out _ (HA.out.only ((Only.refl [] _).alloc _) (by simp) (by simp)) (HM.out.alloc _)).mono ?_; rintro e w3 ⟨rfl, ho, hz⟩; (first | clear r0 r1 r2 r3 r4 r5 r6 r7 r8 r9 r10 r11 r12 rf | skip); replace HRB := hide ((HRB.out.alloc _).only ho (by have := HD.out; simp; omega)); replace HO := hide ((((HO.out.alloc _).mono (S' := [w.heap.size + 1, w1.heap.size]) (by simp)).trans ho).mono (S' := []) (by have := HD.out; simp; omega)); have r0 := HRB.out.cell 0; have r1 := HRB.out.cell 1; have r2 := HRB.out.cell 2; have r3 := HRB.out.cell 3; have r4 := HRB.out.cell 4; have r5 := HRB.out.cell 5; have r6 := HRB.out.cell 6; have r7 := HRB.out.cell 7; have r8 := HRB.out.cell 8; have r9 := HRB.out.cell 9; have r10 := HRB.out.cell 10; have r11 := HRB.out.cell 11; have r12 := HRB.out.cell 12; simp at r0 r1 r2 r3 r4 r5 r6 r7 r8 r9 r10 r11 r12; have rf := HRB.out.frozen; clear ho hz)
    refine bodyPost_ret (results_cell_two rfl _ _ w.heap.size 53 _ (0, 0) _ rfl (set13 HRB.out (.int .i64 0) (.int .u32 0) (.int .u32 0) (.int .u64 0) (.string ⟨#[]⟩) (.string ⟨#[]⟩) (.string ⟨#[]⟩) (.string ⟨#[]⟩) (.string ⟨#[]⟩) (.string ⟨#[]⟩) (.string ⟨#[]⟩) (.string ⟨#[]⟩) (.string ⟨#[]⟩)) Tryd.underlying53 rfl (by kernel_rfl)) rfl ?_
    exact readw HV2.out (only13 HO.out (.inr (Nat.le_refl _)) (.int .i64 0) (.int .u32 0) (.int .u32 0) (.int .u64 0) (.string ⟨#[]⟩) (.string ⟨#[]⟩) (.string ⟨#[]⟩) (.string ⟨#[]⟩) (.string ⟨#[]⟩) (.string ⟨#[]⟩) (.string ⟨#[]⟩) (.string ⟨#[]⟩) (.string ⟨#[]⟩))
  subst hc
  have HF4 := hide (show fieldsV (rowL 4) l0 (zeroM 4) = fieldsV [] l3 #[.int .i64 4, .int .u32 0, .int .u32 (x0 : Nat), .int .u64 (x1 : Nat), .string ⟨#[]⟩, .string ⟨#[]⟩, .string ⟨#[]⟩, .string ⟨#[]⟩, .string ⟨#[]⟩, .string ⟨#[]⟩, .string x2, .string ⟨#[]⟩, .string ⟨#[]⟩] by rw [HF3.out, fields_yes hfv]; rfl)
  clear hfv hr
  go_wp2_with (go_at_call 75; refine (HFD.out _ (HA.out.only ((Only.refl [] _).alloc _) (by simp) (by simp)) (HM.out.alloc _)).mono ?_; rintro e w3 ⟨rfl, ho, hz⟩; (first | clear r0 r1 r2 r3 r4 r5 r6 r7 r8 r9 r10 r11 r12 rf | skip); replace HRB := hide ((HRB.out.alloc _).only ho (by have := HD.out; simp; omega)); replace HO := hide ((((HO.out.alloc _).mono (S' := [w.heap.size + 1, w1.heap.size]) (by simp)).trans ho).mono (S' := []) (by have := HD.out; simp; omega)); have r0 := HRB.out.cell 0; have r1 := HRB.out.cell 1; have r2 := HRB.out.cell 2; have r3 := HRB.out.cell 3; have r4 := HRB.out.cell 4; have r5 := HRB.out.cell 5; have r6 := HRB.out.cell 6; have r7 := HRB.out.cell 7; have r8 := HRB.out.cell 8; have r9 := HRB.out.cell 9; have r10 := HRB.out.cell 10; have r11 := HRB.out.cell 11; have r12 := HRB.out.cell 12; simp at r0 r1 r2 r3 r4 r5 r6 r7 r8 r9 r10 r11 r12; have rf := HRB.out.frozen; obtain ⟨ha, hm⟩ := hz (by trivial); replace HA := hide ha; replace HM := hide hm; replace HROW := hide ((HROW.out.alloc _).only ho (by have := HD.out; simp; omega)); replace HX1 := hide ((HX1.out.alloc _).only ho (by have := HD.out; simp; omega)); replace HX2 := hide ((HX2.out.alloc _).only ho (by have := HD.out; simp; omega)); clear ho hz ha hm)
  clear a0 a1 a2 a3 HFD
  rw [rounds_succ]
  obtain ⟨G2, O2, cap2, hg2, _⟩ := HA.out
  have q0 := hg2.cell 0
  simp at q0
  by_cases hn : l3 = []
  · have hz : l3.length = 0 := by rw [hn]; rfl
    rw [hz] at q0
    have HV2 := hide (show readV l = (0, #[.int .i64 4, .int .u32 0, .int .u32 (x0 : Nat), .int .u64 (x1 : Nat), .string ⟨#[]⟩, .string ⟨#[]⟩, .string ⟨#[]⟩, .string ⟨#[]⟩, .string ⟨#[]⟩, .string ⟨#[]⟩, .string x2, .string ⟨#[]⟩, .string ⟨#[]⟩]) by rw [HF0.out, HF4.out, hn]; rfl)
    have m0 := HM.out.cell 0; have m1 := HM.out.cell 1; have m2 := HM.out.cell 2; have m3 := HM.out.cell 3; have m4 := HM.out.cell 4; have m5 := HM.out.cell 5; have m6 := HM.out.cell 6; have m7 := HM.out.cell 7; have m8 := HM.out.cell 8; have m9 := HM.out.cell 9; have m10 := HM.out.cell 10; have m11 := HM.out.cell 11; have m12 := HM.out.cell 12
    simp at m0 m1 m2 m3 m4 m5 m6 m7 m8 m9 m10 m11 m12
    clear hn hz hg2
    go_wp2_with fail
    refine bodyPost_ret (results_cell_two rfl _ _ w.heap.size 53 _ (0, 0) _ rfl (set13 HRB.out (.int .i64 4) (.int .u32 0) (.int .u32 (x0 : Nat)) (.int .u64 (x1 : Nat)) (.string ⟨#[]⟩) (.string ⟨#[]⟩) (.string ⟨#[]⟩) (.string ⟨#[]⟩) (.string ⟨#[]⟩) (.string ⟨#[]⟩) (.string x2) (.string ⟨#[]⟩) (.string ⟨#[]⟩)) Tryd.underlying53 rfl (by kernel_rfl)) rfl ?_
    exact readw HV2.out (only13 HO.out (.inr (Nat.le_refl _)) (.int .i64 4) (.int .u32 0) (.int .u32 (x0 : Nat)) (.int .u64 (x1 : Nat)) (.string ⟨#[]⟩) (.string ⟨#[]⟩) (.string ⟨#[]⟩) (.string ⟨#[]⟩) (.string ⟨#[]⟩) (.string ⟨#[]⟩) (.string x2) (.string ⟨#[]⟩) (.string ⟨#[]⟩))
  · have hp : 0 < l3.length := List.length_pos_iff.2 hn
    have hpI : (0 : Int) < l3.length := by omega
    have HV2 := hide (show readV l = (5, zeroM 0) by rw [HF0.out, HF4.out]; exact (if_pos rfl).trans (if_neg hn))
    clear hn hg2
    go_wp2_with fail
    refine bodyPost_ret (results_cell_two rfl _ _ w.heap.size 53 _ (0, 0) _ rfl (set13 HRB.out (.int .i64 0) (.int .u32 0) (.int .u32 0) (.int .u64 0) (.string ⟨#[]⟩) (.string ⟨#[]⟩) (.string ⟨#[]⟩) (.string ⟨#[]⟩) (.string ⟨#[]⟩) (.string ⟨#[]⟩) (.string ⟨#[]⟩) (.string ⟨#[]⟩) (.string ⟨#[]⟩)) Tryd.underlying53 rfl (by kernel_rfl)) rfl ?_
    exact readw HV2.out (only13 HO.out (.inr (Nat.le_refl _)) (.int .i64 0) (.int .u32 0) (.int .u32 0) (.int .u64 0) (.string ⟨#[]⟩) (.string ⟨#[]⟩) (.string ⟨#[]⟩) (.string ⟨#[]⟩) (.string ⟨#[]⟩) (.string ⟨#[]⟩) (.string ⟨#[]⟩) (.string ⟨#[]⟩) (.string ⟨#[]⟩))
end
section
open Go.RowKit Go.Deep

theorem zero_len (n : Nat) (l : List UInt8) : (zeroV n l).2.length ≤ l.length := by
  induction n generalizing l with
  | zero => exact Nat.le_refl _
  | succ n ih =>
    cases l with
    | nil => simp [zeroV]
    | cons b r =>
      rw [zeroV]
      split
      · have := ih r; simp only [List.length_cons]; omega
      · simp
/-- The head of a message, by cases. -/
theorem head_cases (l : List UInt8) : (∃ c, headV l = (c, 0, []) ∧ c ≠ 0) ∨ ∃ k q, headV l = (0, k, q) ∧ (k = 1 ∨ k = 2 ∨ k = 3 ∨ k = 4) ∧ q.length ≤ l.length ∧ l ≠ [] := by
  cases l with
  | nil => exact .inl ⟨4, rfl, by decide⟩
  | cons c r =>
    by_cases hk : c = 1 ∨ c = 2 ∨ c = 3 ∨ c = 4
    · have e : headV (c :: r) = if (zeroV 3 r).1 = 0 then (0, (c.toNat : Int), (zeroV 3 r).2) else ((zeroV 3 r).1, 0, []) := if_pos hk
      by_cases hz : (zeroV 3 r).1 = 0
      · rw [if_pos hz] at e
        refine .inr ⟨_, _, e, ?_, by have := zero_len 3 r; simp only [List.length_cons]; omega, by simp⟩
        rcases hk with rfl | rfl | rfl | rfl <;> decide
      · rw [if_neg hz] at e
        exact .inl ⟨_, e, hz⟩
    · exact .inl ⟨3, if_neg hk, by decide⟩

set_option maxRecDepth 100000 in
set_option maxHeartbeats 6400000 in
theorem Read_err (w : World) (bv : Value) (l : List UInt8) (hl : l.length ≤ 1099511627776) (c : Int) (hh : headV l = (c, 0, [])) (hc : c ≠ 0) (hne : l ≠ []) (hb : Rd w [] bv (ints .u8 (byts l))) :
    Calls Tryd.prog 40 #[bv] w (ReadPostW (readV l) w) := by
  obtain ⟨A, cap, rfl, hc1, hc2⟩ := hb.formb
  obtain ⟨G, O, rfl, _⟩ : ∃ G O, A = some ⟨G, O, none⟩ ∧ True := by
    obtain ⟨b, r, rfl⟩ := List.exists_cons_of_ne_nil hne
    obtain ⟨g, o, h, _⟩ := hb.at_.2.2.2 0 (.int .u8 (b.toNat : Int)) rfl
    exact ⟨g, o, h, trivial⟩
  have HO := hide (((Only.refl [] w).alloc (.cells (zeroM 0) 53)).alloc (.cells #[.slice (some ⟨G, O, none⟩) l.length cap] 104))
  have HRB := hide ((Blk.new w 53 (zeroM 0)).alloc (.cells #[.slice (some ⟨G, O, none⟩) l.length cap] 104))
  have HA := hide (show RdrAt ((w.alloc (.cells (zeroM 0) 53)).alloc (.cells #[.slice (some ⟨G, O, none⟩) l.length cap] 104)) [] (w.heap.size + 1) l from by
    have h := Blk.new (w.alloc (.cells (zeroM 0) 53)) 104 #[.slice (some ⟨G, O, none⟩) l.length cap]
    rw [World.size_alloc] at h
    exact ⟨G, O, cap, h, (hb.more (by intro x hx; rw [List.mem_singleton.1 hx]; right; omega)).only HO.out (by simp)⟩)
  unfold zeroM at HO HRB HA
  have HH := hide (fun W ha => head_w W [] (w.heap.size + 1) l hl ha)
  unfold HeadPost at HH
  rw [hh] at HH
  simp only at HH
  have HV2 := hide (show readV l = (c, zeroM 0) by rw [read_head (by rw [hh]; exact hc), hh])
  have hcb : (c != 0) = true := bne_iff_ne.2 hc
  clear hb hl hh hne hc
  go_enter Tryd.func40, Tryd.ntmps40
  go_wp2_with (go_at_call 73; refine (HH.out _ HA.out).mono ?_; rintro e w1 ⟨rfl, ho, ha⟩; replace HRB := hide (HRB.out.only ho (by simp)); replace HO := hide (((HO.out.mono (S' := [w.heap.size + 1]) (by simp)).trans ho).mono (S' := []) (by simp)); have r0 := HRB.out.cell 0; have r1 := HRB.out.cell 1; have r2 := HRB.out.cell 2; have r3 := HRB.out.cell 3; have r4 := HRB.out.cell 4; have r5 := HRB.out.cell 5; have r6 := HRB.out.cell 6; have r7 := HRB.out.cell 7; have r8 := HRB.out.cell 8; have r9 := HRB.out.cell 9; have r10 := HRB.out.cell 10; have r11 := HRB.out.cell 11; have r12 := HRB.out.cell 12; simp at r0 r1 r2 r3 r4 r5 r6 r7 r8 r9 r10 r11 r12; have rf := HRB.out.frozen; clear ho ha)
  refine bodyPost_ret (results_cell_two rfl _ _ w.heap.size 53 _ (0, 0) _ rfl (set13 HRB.out (.int .i64 0) (.int .u32 0) (.int .u32 0) (.int .u64 0) (.string ⟨#[]⟩) (.string ⟨#[]⟩) (.string ⟨#[]⟩) (.string ⟨#[]⟩) (.string ⟨#[]⟩) (.string ⟨#[]⟩) (.string ⟨#[]⟩) (.string ⟨#[]⟩) (.string ⟨#[]⟩)) Tryd.underlying53 rfl (by kernel_rfl)) rfl ?_
  exact readw HV2.out (only13 HO.out (.inr (Nat.le_refl _)) _ _ _ _ _ _ _ _ _ _ _ _ _)

theorem Read_any (w : World) (bv : Value) (l : List UInt8) (hl : l.length ≤ 1099511627776) (hb : Rd w [] bv (ints .u8 (byts l))) :
    Calls Tryd.prog 40 #[bv] w (ReadPostW (readV l) w) := by
  by_cases hne : l = []
  · subst hne
    obtain ⟨A, cap, rfl, _⟩ := hb.formb
    exact Read_nil w A cap
  · rcases head_cases l with ⟨c, hh, hc⟩ | ⟨k, q, hh, hk, hq, _⟩
    · exact Read_err w bv l hl c hh hc hne hb
    · rcases hk with rfl | rfl | rfl | rfl
      · exact Read_1 w bv l hl q hh hq hne hb
      · exact Read_2 w bv l hl q hh hq hne hb
      · exact Read_3 w bv l hl q hh hq hne hb
      · exact Read_4 w bv l hl q hh hq hne hb
end
section
open Go.RowKit Go.Deep

/-- The fields that are left, from the bytes that are left, into the cells so far. -/
def finF : List Nat → List UInt8 → Array Value → Int × Array Value
  | [], q, cs => if q = [] then (0, cs) else (5, zeroM 0)
  | i :: r, q, cs => if (fieldV i q).1 = 0 then finF r (fieldV i q).2.2 (cs.setIfInBounds i (fieldV i q).2.1) else ((fieldV i q).1, zeroM 0)
theorem finF_eq (is : List Nat) : ∀ (q : List UInt8) (cs : Array Value), (if (fieldsV is q cs).1 = 0 then (if (fieldsV is q cs).2.1 = [] then (0, (fieldsV is q cs).2.2) else (5, zeroM 0)) else ((fieldsV is q cs).1, zeroM 0)) = finF is q cs := by
  induction is with
  | nil => intro q cs; rfl
  | cons i r ih =>
    intro q cs
    unfold finF
    by_cases h : (fieldV i q).1 = 0
    · rw [if_pos h, ← ih]
      have e : fieldsV (i :: r) q cs = fieldsV r (fieldV i q).2.2 (cs.setIfInBounds i (fieldV i q).2.1) := if_pos h
      rw [e]
    · rw [if_neg h]
      have e : fieldsV (i :: r) q cs = ((fieldV i q).1, [], #[]) := if_neg h
      rw [e]
      exact if_neg h
theorem read_fin {l q : List UInt8} {k : Int} (h : headV l = (0, k, q)) : readV l = finF (rowL k) q (zeroM k) := by
  rw [read_kind h rfl, ← finF_eq]

/-- A number of a field as a cell. -/
def numc (i x : Nat) : Value := if i = 3 then .int .u64 x else .int .u32 x
def strc (ts : List ByteArray) : List Value := ts.map .string
end
section
open Go.RowKit Go.Deep

/-- A message. -/
structure Mg where
  k : Int
  s : Nat
  r : Nat
  c : Nat
  x4 : ByteArray
  x5 : ByteArray
  x6 : ByteArray
  x7 : ByteArray
  x8 : ByteArray
  x9 : ByteArray
  x10 : ByteArray
  x11 : ByteArray
  x12 : ByteArray
/-- Its cells. -/
def Mg.cells (m : Mg) : Array Value := #[.int .i64 m.k, .int .u32 m.s, .int .u32 m.r, .int .u64 m.c, .string m.x4, .string m.x5, .string m.x6, .string m.x7, .string m.x8, .string m.x9, .string m.x10, .string m.x11, .string m.x12]
def eqM (m n : Mg) : Bool := m.k == n.k && m.s == n.s && m.r == n.r && m.c == n.c && m.x4.toList == n.x4.toList && m.x5.toList == n.x5.toList && m.x6.toList == n.x6.toList && m.x7.toList == n.x7.toList && m.x8.toList == n.x8.toList && m.x9.toList == n.x9.toList && m.x10.toList == n.x10.toList && m.x11.toList == n.x11.toList && m.x12.toList == n.x12.toList
theorem toList_inj {a b : ByteArray} (h : a.toList = b.toList) : a = b := by
  rw [ByteArray.toList_eq, ByteArray.toList_eq] at h
  obtain ⟨⟨x⟩⟩ := a
  obtain ⟨⟨y⟩⟩ := b
  exact congrArg (fun z => (⟨⟨z⟩⟩ : ByteArray)) h
theorem eqM_iff (m n : Mg) : eqM m n = true ↔ m = n := by
  constructor
  · intro h
    obtain ⟨k, s, r, c, x4, x5, x6, x7, x8, x9, x10, x11, x12⟩ := m
    obtain ⟨k', s', r', c', y4, y5, y6, y7, y8, y9, y10, y11, y12⟩ := n
    simp only [eqM, Bool.and_eq_true, beq_iff_eq] at h
    obtain ⟨⟨⟨⟨⟨⟨⟨⟨⟨⟨⟨⟨h0, h1⟩, h2⟩, h3⟩, h4⟩, h5⟩, h6⟩, h7⟩, h8⟩, h9⟩, h10⟩, h11⟩, h12⟩ := h
    rw [h0, h1, h2, h3, toList_inj h4, toList_inj h5, toList_inj h6, toList_inj h7, toList_inj h8, toList_inj h9, toList_inj h10, toList_inj h11, toList_inj h12]
  · rintro rfl
    simp [eqM]
set_option maxRecDepth 100000 in
set_option maxHeartbeats 3200000 in
theorem msg_fields : Tryd.prog.underlying 53 = some (.struct (Tryd.prog.fieldsOf 53)) := by kernel_rfl
set_option maxRecDepth 100000 in
set_option maxHeartbeats 3200000 in
theorem msg_eql (m n : Mg) (w : World) : (binOp .eql 53 (.agg m.cells) (.agg n.cells)).run Tryd.prog w = .ok (.bool (eqM m n)) w := by
  rw [run_eql_struct, run_equalIn_agg w 9999 _ _ _ msg_fields (by kernel_rfl)]
  obtain ⟨k, s, r, c, x4, x5, x6, x7, x8, x9, x10, x11, x12⟩ := m
  obtain ⟨k', s', r', c', y4, y5, y6, y7, y8, y9, y10, y11, y12⟩ := n
  simp [Mg.cells, eqM, Program.fieldsOf, Tryd.underlying53, Op.eqFields, go_sem]
  by_cases h : k = k'
  case neg =>
    rw [if_neg h]
    have e : (k == k') = false := by rw [beq_eq_false_iff_ne]; exact h
    simp only [e, Bool.false_and]
  rw [if_pos h]
  have e : (k == k') = true := by rw [beq_iff_eq]; exact h
  simp only [e, Bool.true_and]
  clear h e
  by_cases h : (s : Int) = s'
  case neg =>
    rw [if_neg h]
    have e : (s == s') = false := by rw [beq_eq_false_iff_ne]; omega
    simp only [e, Bool.false_and]
  rw [if_pos h]
  have e : (s == s') = true := by rw [beq_iff_eq]; omega
  simp only [e, Bool.true_and]
  clear h e
  by_cases h : (r : Int) = r'
  case neg =>
    rw [if_neg h]
    have e : (r == r') = false := by rw [beq_eq_false_iff_ne]; omega
    simp only [e, Bool.false_and]
  rw [if_pos h]
  have e : (r == r') = true := by rw [beq_iff_eq]; omega
  simp only [e, Bool.true_and]
  clear h e
  by_cases h : (c : Int) = c'
  case neg =>
    rw [if_neg h]
    have e : (c == c') = false := by rw [beq_eq_false_iff_ne]; omega
    simp only [e, Bool.false_and]
  rw [if_pos h]
  have e : (c == c') = true := by rw [beq_iff_eq]; omega
  simp only [e, Bool.true_and]
  clear h e
  by_cases h : x4.toList = y4.toList
  case neg =>
    rw [if_neg h]
    have e : (x4.toList == y4.toList) = false := by rw [beq_eq_false_iff_ne]; exact h
    simp only [e, Bool.false_and]
  rw [if_pos h]
  have e : (x4.toList == y4.toList) = true := by rw [beq_iff_eq]; exact h
  simp only [e, Bool.true_and]
  clear h e
  by_cases h : x5.toList = y5.toList
  case neg =>
    rw [if_neg h]
    have e : (x5.toList == y5.toList) = false := by rw [beq_eq_false_iff_ne]; exact h
    simp only [e, Bool.false_and]
  rw [if_pos h]
  have e : (x5.toList == y5.toList) = true := by rw [beq_iff_eq]; exact h
  simp only [e, Bool.true_and]
  clear h e
  by_cases h : x6.toList = y6.toList
  case neg =>
    rw [if_neg h]
    have e : (x6.toList == y6.toList) = false := by rw [beq_eq_false_iff_ne]; exact h
    simp only [e, Bool.false_and]
  rw [if_pos h]
  have e : (x6.toList == y6.toList) = true := by rw [beq_iff_eq]; exact h
  simp only [e, Bool.true_and]
  clear h e
  by_cases h : x7.toList = y7.toList
  case neg =>
    rw [if_neg h]
    have e : (x7.toList == y7.toList) = false := by rw [beq_eq_false_iff_ne]; exact h
    simp only [e, Bool.false_and]
  rw [if_pos h]
  have e : (x7.toList == y7.toList) = true := by rw [beq_iff_eq]; exact h
  simp only [e, Bool.true_and]
  clear h e
  by_cases h : x8.toList = y8.toList
  case neg =>
    rw [if_neg h]
    have e : (x8.toList == y8.toList) = false := by rw [beq_eq_false_iff_ne]; exact h
    simp only [e, Bool.false_and]
  rw [if_pos h]
  have e : (x8.toList == y8.toList) = true := by rw [beq_iff_eq]; exact h
  simp only [e, Bool.true_and]
  clear h e
  by_cases h : x9.toList = y9.toList
  case neg =>
    rw [if_neg h]
    have e : (x9.toList == y9.toList) = false := by rw [beq_eq_false_iff_ne]; exact h
    simp only [e, Bool.false_and]
  rw [if_pos h]
  have e : (x9.toList == y9.toList) = true := by rw [beq_iff_eq]; exact h
  simp only [e, Bool.true_and]
  clear h e
  by_cases h : x10.toList = y10.toList
  case neg =>
    rw [if_neg h]
    have e : (x10.toList == y10.toList) = false := by rw [beq_eq_false_iff_ne]; exact h
    simp only [e, Bool.false_and]
  rw [if_pos h]
  have e : (x10.toList == y10.toList) = true := by rw [beq_iff_eq]; exact h
  simp only [e, Bool.true_and]
  clear h e
  by_cases h : x11.toList = y11.toList
  case neg =>
    rw [if_neg h]
    have e : (x11.toList == y11.toList) = false := by rw [beq_eq_false_iff_ne]; exact h
    simp only [e, Bool.false_and]
  rw [if_pos h]
  have e : (x11.toList == y11.toList) = true := by rw [beq_iff_eq]; exact h
  simp only [e, Bool.true_and]
  clear h e
  by_cases h : x12.toList = y12.toList
  case neg =>
    rw [if_neg h]
    have e : (x12.toList == y12.toList) = false := by rw [beq_eq_false_iff_ne]; exact h
    simp only [e, Bool.false_and]
  rw [if_pos h]
  have e : (x12.toList == y12.toList) = true := by rw [beq_iff_eq]; exact h
  simp only [e]
end
section
open Go.RowKit Go.Deep

def noT : ByteArray := ⟨#[]⟩
/-- The texts of a message's row. -/
def textsM (m : Mg) : List ByteArray := if m.k = 1 then [m.x4, m.x5, m.x6, m.x11, m.x12] else if m.k = 2 then [m.x4, m.x7, m.x11, m.x12] else if m.k = 3 then [m.x8, m.x9] else [m.x10]
/-- The message with the fields of its row alone. -/
def onlyM (m : Mg) : Mg :=
  if m.k = 1 then ⟨1, m.s, 0, 0, m.x4, m.x5, m.x6, noT, noT, noT, noT, m.x11, m.x12⟩
  else if m.k = 2 then ⟨2, m.s, m.r, 0, m.x4, noT, noT, m.x7, noT, noT, noT, m.x11, m.x12⟩
  else if m.k = 3 then ⟨3, 0, m.r, 0, noT, noT, noT, noT, m.x8, m.x9, noT, noT, noT⟩
  else ⟨4, 0, m.r, m.c, noT, noT, noT, noT, noT, noT, m.x10, noT, noT⟩
/-- Is it a message? -/
def rightM (m : Mg) : Bool := decide (1 ≤ m.k ∧ m.k ≤ 4) && ((textsM m).all fitW && eqM (onlyM m) m)
/-- What fits the machine. -/
structure Mg.Fine (m : Mg) : Prop where
  s : m.s < 4294967296
  r : m.r < 4294967296
  c : m.c < 18446744073709551616
  x4 : m.x4.size ≤ maxLen
  x5 : m.x5.size ≤ maxLen
  x6 : m.x6.size ≤ maxLen
  x7 : m.x7.size ≤ maxLen
  x8 : m.x8.size ≤ maxLen
  x9 : m.x9.size ≤ maxLen
  x10 : m.x10.size ≤ maxLen
  x11 : m.x11.size ≤ maxLen
  x12 : m.x12.size ≤ maxLen

/-- What proper hands back: the row, where the message is right. -/
def PropPost (n : Nat) (C : Nat → Nat → List Value) (b : Bool) (w : World) (e : Ending) (w' : World) : Prop :=
  ∃ fv, e = .returned (.tuple #[fv, .bool b]) ∧ Only [] w w' ∧ (b = true → ∃ g b1 b2, fv = .slice (some ⟨g, 0, none⟩) n n ∧ w.heap.size ≤ g ∧ w.heap.size ≤ b1 ∧ w.heap.size ≤ b2 ∧ Blk w' g 97 (C b1 b2).toArray ∧
    Blk w' b1 148 #[fnV 104] ∧ Blk w' b2 148 #[fnV 105])
theorem prop_no {n : Nat} {C : Nat → Nat → List Value} {b : Bool} {fv : Value} {w w' : World} (h : b = false) (ho : Only [] w w') : PropPost n C b w (.returned (.tuple #[fv, .bool false])) w' := by
  subst h
  exact ⟨fv, rfl, ho, fun h => by cases h⟩
theorem prop_is {n : Nat} {C : Nat → Nat → List Value} {b b' : Bool} {w w' : World} {g b1 b2 : Nat} (h : b = b') (h1 : w.heap.size ≤ g) (h2 : w.heap.size ≤ b1) (h3 : w.heap.size ≤ b2) (h4 : Blk w' g 97 (C b1 b2).toArray)
    (h5 : Blk w' b1 148 #[fnV 104]) (h6 : Blk w' b2 148 #[fnV 105]) (h7 : Only [] w w') : PropPost n C b w (.returned (.tuple #[.slice (some ⟨g, 0, none⟩) n n, .bool b'])) w' := by
  subst h
  exact ⟨_, rfl, h7, fun _ => ⟨g, b1, b2, rfl, h1, h2, h3, h4, h5, h6⟩⟩
end
section
open Go.RowKit Go.Deep

/-- A number's bytes, the lowest first. -/
def lowB : Nat → Nat → List UInt8
  | 0, _ => []
  | n + 1, u => UInt8.ofNat (u % 256) :: lowB n (u / 256)
theorem lowB_length (n u : Nat) : (lowB n u).length = n := by
  induction n generalizing u with
  | zero => rfl
  | succ n ih => rw [lowB, List.length_cons, ih]
theorem lowB_snoc (n u : Nat) : lowB (n + 1) u = lowB n u ++ [UInt8.ofNat (u / 256 ^ n % 256)] := by
  induction n generalizing u with
  | zero => simp [lowB]
  | succ n ih =>
    rw [lowB, ih (u / 256), lowB, List.cons_append]
    congr 3
    rw [Nat.div_div_eq_div_mul, Nat.pow_succ, Nat.mul_comm]
theorem lowV_lowB (n u : Nat) (h : u < 256 ^ n) : lowV (lowB n u) = u := by
  induction n generalizing u with
  | zero => simp at h; subst h; rfl
  | succ n ih =>
    rw [lowB, lowV, ih (u / 256) (by rw [Nat.pow_succ] at h; omega)]
    simp only [UInt8.toNat_ofNat']
    omega
theorem wp_scope_falls {P : Program} {a : Act} {w : World} {Q : Exit → Act → World → Prop} {c rest : Code} (l : Nat) (J : Act → World → Prop) (μ : Act → World → Nat) (hf : findLabel c l = some (Code.skip.seq rest))
    (pass : ∀ a w, J a w → rest.wp P (Exit.jump l (fun a' w' => J a' w' ∧ μ a' w' < μ a w) Q) a w)
    (first : (∀ a w, J a w → rest.wp P (Exit.jump l J Q) a w) → c.wp P (Exit.jump l J Q) a w) : (Code.scope c).wp P Q a w :=
  wp_scope_jumps l J μ hf (first fun a w hJ => wp_mono (pass a w hJ) (by
    intro e a' w' h
    cases e with
    | goto l' => exact ⟨h.1, h.2.1⟩
    | normal => exact h
    | exit id => exact h
    | ret => exact h
    | panic ch => exact h
    | outgrown => exact h)) (by
    intro a w hJ
    apply wp_seq_k
    intro K hK
    apply wp_skip
    exact hK _ _ (pass a w hJ))

theorem byte_at (u i : Nat) (z : UInt8) (h : z = UInt8.ofNat (u / 256 ^ i % 256)) : (u : Int) / 2 ^ (8 * i) % 256 = (z.toNat : Int) := by
  have hp : ((2 : Int) ^ (8 * i)) = ((256 ^ i : Nat) : Int) := by
    have e8 : (2 : Int) ^ 8 = ((256 : Nat) : Int) := by decide
    rw [Int.pow_mul, e8, Int.natCast_pow]
  rw [h, hp, UInt8.toNat_ofNat', Nat.mod_eq_of_lt (by omega : u / 256 ^ i % 256 < 2 ^ 8)]
  omega
theorem ints_append (k : IntKind) (a b : List Int) : ints k (a ++ b) = ints k a ++ ints k b := by simp [ints]
theorem below_refl_ (B : Nat) (w : World) : Below B w w := ⟨rfl, rfl, rfl, Nat.le_refl _, fun _ _ => rfl⟩
theorem below_alloc_ {B : Nat} {w w' : World} (h : Below B w w') (hB : B ≤ w.heap.size) (o : Obj) : Below B w (w'.alloc o) :=
  ⟨h.os, h.tape, h.output, Nat.le_trans h.size (by simp), fun i hi => (Below.heap_alloc w' o i (by have := h.size; omega)).trans (h.block i hi)⟩
theorem below_grown_ {B : Nat} {w w' w2 : World} (h : Below B w w') {row : Option Nat} (hg : w'.grownBy w2 row) (hr : ∀ k, row = some k → B ≤ k) (hB : B ≤ w'.heap.size) : Below B w w2 :=
  ⟨hg.os.trans h.os, hg.tape.trans h.tape, hg.output.trans h.output, Nat.le_trans h.size hg.size, fun i hi => (hg.block i (by omega) (fun e => by have := hr i e.symm; omega)).trans (h.block i hi)⟩

def LowJ (w : World) (base u n k : Nat) (xs : List UInt8) (a' : Act) (w' : World) : Prop :=
  ∃ (i : Nat) (v u3 u4 u5 u6 u8 u9 u10 u11 u12 u13 u14 u15 u16 u17 u18 u19 u20 u21 : Value), a' = ⟨#[v, .int .u64 u, .int .i64 n, u3, u4, u5, u6, .int .i64 i, u8, u9, u10, u11, u12, u13, u14, u15, u16, u17, u18, u19, u20, u21], []⟩ ∧ i ≤ n ∧
    w'.ownsRow base 5 1 v (k + i) (ints .u8 (byts (xs ++ lowB i u))) ∧ Below base w w'
set_option maxRecDepth 100000 in
set_option maxHeartbeats 6400000 in
theorem low_any (w : World) (base u n k : Nat) (v : Value) (xs : List UInt8) (hn : n ≤ 8) (hk : k ≤ 1099511627776) (_hu : u < 18446744073709551616) (hb : base ≤ w.heap.size) (hown : w.ownsRow base 5 1 v k (ints .u8 (byts xs))) :
    Calls Tryd.prog 71 #[v, .int .u64 u, .int .i64 n] w fun e w' => ∃ v', e = .returned v' ∧ w'.ownsRow base 5 1 v' (k + n) (ints .u8 (byts (xs ++ lowB n u))) ∧ Below base w w' := by
  obtain ⟨i0, hi, hz0, hz1, hz2⟩ := info_parts (show (Tryd.prog.info? 5).map (fun i => (i.zero, i.size, i.bytes)) = some (some (.int .u8 0), 1, 1) by kernel_rfl)
  have HOW := hide hown
  have HB := hide hb
  clear hown hb
  go_enter Tryd.func71, Tryd.ntmps71
  go_wp2_with fail
  refine wp_scope_falls 0 (LowJ w base u n k xs) (fun a' _ => n - (intOf (a'.tmps.getD 7 undef)).toNat) rfl ?_ ?_
  · rintro a' w' ⟨i, v', u3, u4, u5, u6, u8, u9, u10, u11, u12, u13, u14, u15, u16, u17, u18, u19, u20, u21, rfl, hin, hown, hbel⟩
    by_cases hie : i = n
    · subst hie
      have HP := hide (show ∃ v2, Ending.returned v' = Ending.returned v2 ∧ w'.ownsRow base 5 1 v2 (k + i) (ints .u8 (byts (xs ++ lowB i u))) ∧ Below base w w' from ⟨v', rfl, hown, hbel⟩)
      clear hown hbel
      go_wp2_with fail
      simp only [Exit.jump]
      go_ret
      exact HP.out
    · have hne : ((i : Int) == n) = false := by rw [beq_eq_false_iff_ne]; omega
      obtain ⟨A, c, rfl, _, _⟩ := own_form hown
      obtain ⟨z, hz⟩ : ∃ z : UInt8, z = UInt8.ofNat (u / 256 ^ i % 256) := ⟨_, rfl⟩
      have HZ := hide hz
      have HZI := hide (byte_at u i z hz)
      have HSN := hide (lowB_snoc i u)
      rw [← hz] at HSN
      clear hz
      have HRN := hide (reads_one w' 5 (.int .u8 ((u : Int) / 2 ^ (8 * i) % 256)) (w'.heap.size + 1) (Nat.lt_succ_self _))
      have HOW2 := hide (World.ownsRow.alloc hown (.cells #[.int .u8 ((u : Int) / 2 ^ (8 * i) % 256)] 5))
      have HBL := hide (below_alloc_ hbel (by have := HB.out; omega) (.cells #[.int .u8 ((u : Int) / 2 ^ (8 * i) % 256)] 5))
      have HSZ := hide hbel.size
      clear hown hbel
      go_wp2_with (at_builtin; (refine wpList_append_any _ rfl (.tmp 12) (.tmp 18) 30 rfl base 5 i0 (.int .u8 0) 1 1 Tryd.underlying30 hi hz0 hz1 hz2 rfl (by decide) _ (k + i) _ rfl HOW2.out _ _ 1 1 [.int .u8 ((u : Int) / 2 ^ (8 * i) % 256)] rfl HRN.out (by simp [Value.oneCell']) (by unfold maxLen; omega) (by omega) (by have := HSZ.out; have := HB.out; simp; omega) ?_; intro v1 w3 hown1 hg1 _; have HOW3 := hide (show w3.ownsRow base 5 1 v1 (k + (i + 1)) (ints .u8 (byts (xs ++ lowB (i + 1) u))) from (by rw [HSN.out, ← List.append_assoc, byts_append, ints_append, show ints .u8 (byts [z]) = [.int .u8 ((u : Int) / 2 ^ (8 * i) % 256)] from (by rw [HZI.out]; rfl)]; exact hown1)); have HB3 := hide (below_grown_ HBL.out hg1 (fun jj hjj => own_block_ge HOW2.out hjj) (by have := HSZ.out; have := HB.out; simp; omega)); clear hown1 hg1))
      go_step3
      refine ⟨rfl, ⟨i + 1, _, _, _, _, _, _, _, _, _, _, _, _, _, _, _, _, _, _, _, rfl, by omega, HOW3.out, HB3.out⟩, ?_⟩
      simp [intOf]; omega
  · intro hfall
    have HF := hide hfall
    clear hfall
    go_wp2_with fail
    go_step3
    rename_i hK
    refine hK _ _ ?_
    exact HF.out _ _ ⟨0, _, _, _, _, _, _, _, _, _, _, _, _, _, _, _, _, _, _, _, rfl, Nat.zero_le _, by rw [lowB, List.append_nil]; exact HOW.out, below_refl_ _ _⟩
end
section
open Go.RowKit Go.Deep

/-- A text behind some bytes. -/
def txtA (l : List UInt8) (x : ByteArray) : List UInt8 := (l ++ lowB 2 x.size) ++ x.data.toList
/-- A message's bytes. -/
def printM (m : Mg) : List UInt8 :=
  if m.k = 1 then txtA (txtA (txtA (txtA (txtA ([1, 0, 0, 0] ++ lowB 4 m.s) m.x4) m.x5) m.x6) m.x11) m.x12
  else if m.k = 2 then txtA (txtA (txtA (txtA (([2, 0, 0, 0] ++ lowB 4 m.s) ++ lowB 4 m.r) m.x4) m.x7) m.x11) m.x12
  else if m.k = 3 then txtA (txtA ([3, 0, 0, 0] ++ lowB 4 m.r) m.x8) m.x9
  else txtA (([4, 0, 0, 0] ++ lowB 4 m.r) ++ lowB 8 m.c) m.x10
theorem fit_size {x : ByteArray} (h : fitW x = true) : x.size ≤ 65535 := by
  unfold fitW at h
  rw [Bool.and_eq_true] at h
  exact of_decide_eq_true h.1
theorem str_cells (s : ByteArray) : Lib.strCells s = ints .u8 (byts s.data.toList) := by simp [Lib.strCells, ints, byts]
theorem only_below {S : List Nat} {B : Nat} {w u u' : World} (h : Only S w u) (hb : Below B u u') (hB : w.heap.size ≤ B) : Only S w u' :=
  ⟨hb.os.trans h.os, hb.tape.trans h.tape, hb.output.trans h.output, Nat.le_trans h.size hb.size, fun i hi hn => (hb.block i (by omega)).trans (h.block i hi hn)⟩
theorem below_row {B : Nat} {w w2 : World} {row : Option Nat} (hg : w.grownBy w2 row) (hr : ∀ k, row = some k → B ≤ k) (hB : B ≤ w.heap.size) : Below B w w2 := below_grown_ (below_refl_ B w) hg hr hB
/-- What Print hands back. -/
def PrintPost (m : Mg) (w : World) (e : Ending) (w' : World) : Prop :=
  Only [] w w' ∧ if rightM m = true then ∃ v, e = .returned (.tuple #[v, .int .i64 0]) ∧ Rd w' [] v (ints .u8 (byts (printM m))) else e = .returned (.tuple #[.slice none 0 0, .int .i64 3])
theorem print_no {m : Mg} {w w' : World} (h : rightM m = false) (ho : Only [] w w') : PrintPost m w (.returned (.tuple #[.slice none 0 0, .int .i64 3])) w' := ⟨ho, by rw [if_neg (by rw [h]; decide)]⟩
theorem print_yes {m : Mg} {w w' : World} {v : Value} {l : List UInt8} {B n : Nat} (h : rightM m = true) (hl : printM m = l) (ho : Only [] w w') (hown : w'.ownsRow B 5 1 v n (ints .u8 (byts l))) : PrintPost m w (.returned (.tuple #[v, .int .i64 0])) w' :=
  ⟨ho, by rw [if_pos h, hl]; exact ⟨v, rfl, (Rd.of_own (N := []) hown (by simp)).1⟩⟩
/-- What Terms hands back. -/
def TermsPost (m : Mg) (w : World) (e : Ending) (w' : World) : Prop :=
  Only [] w w' ∧ if rightM m = true then ∃ v, e = .returned v ∧ Rd w' [] v (strc (textsM m)) else e = .returned (.slice none 0 0)
theorem terms_no {m : Mg} {w w' : World} (h : rightM m = false) (ho : Only [] w w') : TermsPost m w (.returned (.slice none 0 0)) w' := ⟨ho, by rw [if_neg (by rw [h]; decide)]⟩
theorem terms_yes {m : Mg} {w w' : World} {v : Value} {l : List ByteArray} {B n : Nat} (h : rightM m = true) (hl : textsM m = l) (ho : Only [] w w') (hown : w'.ownsRow B 9 1 v n (strc l)) : TermsPost m w (.returned v) w' :=
  ⟨ho, by rw [if_pos h, hl]; exact ⟨v, rfl, (Rd.of_own (N := []) hown (by simp)).1⟩⟩
end
end Go.Proofs.YtfmfnfmhknlpbaaDoor

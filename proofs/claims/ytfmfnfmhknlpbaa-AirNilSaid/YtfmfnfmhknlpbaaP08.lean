/-
  Walks and plain words for AirNil (texts Wf4, Wg, Wi0, Msg, Wj0, Wk, Wl0, Wj1). No condition beyond those that each theorem states.
-/
import Derived.Test.YtfmfnfmhknlpbaaChecked
import Derived.Laws.StructEq
import Derived.Lib.AppendStr
import Derived.StillTailTactics
import Derived.Test.YtfmfnfmhknlpbaaP07
namespace Go.Proofs.Ytfmfnfmhknlpbaa
section
open Go.RowKit Go.Deep

set_option maxRecDepth 100000 in
set_option maxHeartbeats 12800000 in
theorem Read_4 (w : World) (bv : Value) (l : List UInt8) (hl : l.length ≤ 1099511627776) (l0 : List UInt8) (hh : headV l = (0, 4, l0)) (hll : l0.length ≤ l.length) (hne : l ≠ []) (hb : Rd w [] bv (ints .u8 (byts l))) :
    Calls Try.prog 7 #[bv] w (ReadPostW (readV l) w) := by
  obtain ⟨A, cap, rfl, hc1, hc2⟩ := hb.formb
  obtain ⟨G, O, rfl, _⟩ : ∃ G O, A = some ⟨G, O, none⟩ ∧ True := by
    obtain ⟨b, r, rfl⟩ := List.exists_cons_of_ne_nil hne
    obtain ⟨g, o, h, _⟩ := hb.at_.2.2.2 0 (.int .u8 (b.toNat : Int)) rfl
    exact ⟨g, o, h, trivial⟩
  have HO := hide (((Only.refl [] w).alloc (.cells (zeroM 0) 27)).alloc (.cells #[.slice (some ⟨G, O, none⟩) l.length cap] 55))
  have HRB := hide ((Blk.new w 27 (zeroM 0)).alloc (.cells #[.slice (some ⟨G, O, none⟩) l.length cap] 55))
  have HA := hide (show RdrAt ((w.alloc (.cells (zeroM 0) 27)).alloc (.cells #[.slice (some ⟨G, O, none⟩) l.length cap] 55)) [] (w.heap.size + 1) l from by
    have h := Blk.new (w.alloc (.cells (zeroM 0) 27)) 55 #[.slice (some ⟨G, O, none⟩) l.length cap]
    rw [World.size_alloc] at h
    exact ⟨G, O, cap, h, (hb.more (by intro x hx; rw [List.mem_singleton.1 hx]; right; omega)).only HO.out (by simp)⟩)
  unfold zeroM at HO HRB HA
  have HH := hide (fun W ha => head_w W [] (w.heap.size + 1) l hl ha)
  unfold HeadPost at HH
  rw [hh] at HH
  simp only at HH
  have HRW := hide (fun W => row_4 W)
  unfold RowPost at HRW
  have HF0 := hide (show readV l = _ from read_kind hh rfl)
  have hl0 : l0.length ≤ 1099511627776 := by omega
  have HL0 := hide hl0
  have hst := fun (W : World) (a : Addr) (fn : Fn) (c : Array Value) => (run_store Try.prog W a (.func fn #[] c) .plain rfl : (store a (.func fn #[] c)).run Try.prog W = stored Try.prog W a (.func fn #[] c) .plain)
  have hsn := fun (W : World) (a : Addr) => (run_store Try.prog W a .nilFunc .plain rfl : (store a .nilFunc).run Try.prog W = stored Try.prog W a .nilFunc .plain)
  clear hb hl hh hll hne hl0
  go_enter Try.func7, Try.ntmps7
  go_wp2_with (first
    | (go_at_call 27; refine (HH.out _ HA.out).mono ?_; rintro e w1 ⟨rfl, ho, ha⟩; have HRB := hide (HRB.out.only ho (by simp)); have HO := hide (((HO.out.mono (S' := [w.heap.size + 1]) (by simp)).trans ho).mono (S' := []) (by simp)); have HZ := hide ho.size; have HM := hide (Blk.new w1 27 #[.int .i64 4, .int .u32 0, .int .u32 0, .int .u64 0, .string ⟨#[]⟩, .string ⟨#[]⟩, .string ⟨#[]⟩, .string ⟨#[]⟩, .string ⟨#[]⟩, .string ⟨#[]⟩, .string ⟨#[]⟩, .string ⟨#[]⟩, .string ⟨#[]⟩]); have HA := hide (((ha (by trivial)).more (N' := [w1.heap.size]) (by intro x hx; right; rw [List.mem_singleton.1 hx]; exact Nat.le_refl _)).only ((Only.refl [] w1).alloc (.cells #[.int .i64 4, .int .u32 0, .int .u32 0, .int .u64 0, .string ⟨#[]⟩, .string ⟨#[]⟩, .string ⟨#[]⟩, .string ⟨#[]⟩, .string ⟨#[]⟩, .string ⟨#[]⟩, .string ⟨#[]⟩, .string ⟨#[]⟩, .string ⟨#[]⟩] 27)) (by simp) (by simp)); have HRB := hide (HRB.out.alloc (.cells #[.int .i64 4, .int .u32 0, .int .u32 0, .int .u64 0, .string ⟨#[]⟩, .string ⟨#[]⟩, .string ⟨#[]⟩, .string ⟨#[]⟩, .string ⟨#[]⟩, .string ⟨#[]⟩, .string ⟨#[]⟩, .string ⟨#[]⟩, .string ⟨#[]⟩] 27)); have HO := hide (HO.out.alloc (.cells #[.int .i64 4, .int .u32 0, .int .u32 0, .int .u64 0, .string ⟨#[]⟩, .string ⟨#[]⟩, .string ⟨#[]⟩, .string ⟨#[]⟩, .string ⟨#[]⟩, .string ⟨#[]⟩, .string ⟨#[]⟩, .string ⟨#[]⟩, .string ⟨#[]⟩] 27)); clear ho ha)
    | (go_at_call 28; refine (HRW.out _).mono ?_; rintro e w2 ⟨gr, b1, b2, rfl, hgr, hb1, hb2, hrow, hx1, hx2, ho⟩; have HROW := hide hrow; have HX1 := hide hx1; have HX2 := hide hx2; have HGR := hide hgr; have HB1 := hide hb1; have HB2 := hide hb2; have HM := hide (HM.out.only ho (by simp)); have HA := hide (HA.out.only ho (by simp) (by simp)); have HRB := hide (HRB.out.only ho (by simp)); have HO := hide (HO.out.trans ho); clear hgr hb1 hb2 hrow hx1 hx2 ho))
  have hd : w.heap.size + 1 + 1 ≤ w1.heap.size ∧ w1.heap.size < gr ∧ w1.heap.size < b1 ∧ w1.heap.size < b2 := by
    have h1 := HZ.out; have h2 := HGR.out; have h3 := HB1.out; have h4 := HB2.out
    simp only [World.size_alloc] at h1 h2 h3 h4
    omega
  have HD := hide hd
  have HF1 := hide (show fieldsV (rowL 4) l0 (zeroM 4) = fieldsV [2, 3, 10] l0 #[.int .i64 4, .int .u32 0, .int .u32 0, .int .u64 0, .string ⟨#[]⟩, .string ⟨#[]⟩, .string ⟨#[]⟩, .string ⟨#[]⟩, .string ⟨#[]⟩, .string ⟨#[]⟩, .string ⟨#[]⟩, .string ⟨#[]⟩, .string ⟨#[]⟩] from rfl)
  clear hd HZ HGR HB1 HB2
  refine wp_loop_rounds 4 ?_
  rw [rounds_succ]
  have a0 := HROW.out.cell 0; have a1 := HROW.out.cell 1; have a2 := HROW.out.cell 2; have a3 := HROW.out.cell 3
  simp [row4C, numC, txtC, cntC] at a0 a1 a2 a3
  obtain ⟨⟨c, x0, l1⟩, hr⟩ : ∃ r, numV 4 l0 = r := ⟨_, rfl⟩
  have HL1 := hide (show l1.length ≤ 1099511627776 by have h := num_len 4 l0; rw [hr] at h; have := HL0.out; simp only at h; omega)
  have hfv : fieldV 2 l0 = (c, .int .u32 (x0 : Nat), l1) := by have e : fieldV 2 l0 = ((numV 4 l0).1, .int .u32 ((numV 4 l0).2.1 : Nat), (numV 4 l0).2.2) := rfl; rw [e, hr]
  have HFD := hide (fun W (ha : RdrAt W [w1.heap.size] (w.heap.size + 1) l0) (hm : Blk W w1.heap.size 27 #[.int .i64 4, .int .u32 0, .int .u32 0, .int .u64 0, .string ⟨#[]⟩, .string ⟨#[]⟩, .string ⟨#[]⟩, .string ⟨#[]⟩, .string ⟨#[]⟩, .string ⟨#[]⟩, .string ⟨#[]⟩, .string ⟨#[]⟩, .string ⟨#[]⟩]) (hx : Blk W b2 _ _) => field_r W [w1.heap.size] (w.heap.size + 1) w1.heap.size b2 l0 HL0.out #[.int .i64 4, .int .u32 0, .int .u32 0, .int .u64 0, .string ⟨#[]⟩, .string ⟨#[]⟩, .string ⟨#[]⟩, .string ⟨#[]⟩, .string ⟨#[]⟩, .string ⟨#[]⟩, .string ⟨#[]⟩, .string ⟨#[]⟩, .string ⟨#[]⟩] (y := 0) rfl ha (by simp) (by have := HD.out; omega) hm hx (by have := HD.out; omega))
  unfold FieldPost at HFD
  rw [hr] at HFD
  simp only at HFD
  by_cases hc : c = 0
  case neg =>
    have hcb : (c != 0) = true := bne_iff_ne.2 hc
    have HV2 := hide (show readV l = (c, zeroM 0) by rw [HF0.out, HF1.out, fields_no hfv hc]; exact if_neg hc)
    clear hc hfv hr
    go_wp2_with (go_at_call 29; refine (HFD.out _ (HA.out.only ((Only.refl [] _).alloc _) (by simp) (by simp)) (HM.out.alloc _) (HX2.out.alloc _)).mono ?_; rintro e w3 ⟨rfl, ho, hz⟩; (first | clear r0 r1 r2 r3 r4 r5 r6 r7 r8 r9 r10 r11 r12 rf | skip); replace HRB := hide ((HRB.out.alloc _).only ho (by have := HD.out; simp; omega)); replace HO := hide ((((HO.out.alloc _).mono (S' := [w.heap.size + 1, w1.heap.size]) (by simp)).trans ho).mono (S' := []) (by have := HD.out; simp; omega)); have r0 := HRB.out.cell 0; have r1 := HRB.out.cell 1; have r2 := HRB.out.cell 2; have r3 := HRB.out.cell 3; have r4 := HRB.out.cell 4; have r5 := HRB.out.cell 5; have r6 := HRB.out.cell 6; have r7 := HRB.out.cell 7; have r8 := HRB.out.cell 8; have r9 := HRB.out.cell 9; have r10 := HRB.out.cell 10; have r11 := HRB.out.cell 11; have r12 := HRB.out.cell 12; simp at r0 r1 r2 r3 r4 r5 r6 r7 r8 r9 r10 r11 r12; have rf := HRB.out.frozen; clear ho hz)
    refine bodyPost_ret (results_cell_two rfl _ _ w.heap.size 27 _ (0, 0) _ rfl (set13 HRB.out (.int .i64 0) (.int .u32 0) (.int .u32 0) (.int .u64 0) (.string ⟨#[]⟩) (.string ⟨#[]⟩) (.string ⟨#[]⟩) (.string ⟨#[]⟩) (.string ⟨#[]⟩) (.string ⟨#[]⟩) (.string ⟨#[]⟩) (.string ⟨#[]⟩) (.string ⟨#[]⟩)) Try.underlying27 rfl (by kernel_rfl)) rfl ?_
    exact readw HV2.out (only13 HO.out (.inr (Nat.le_refl _)) (.int .i64 0) (.int .u32 0) (.int .u32 0) (.int .u64 0) (.string ⟨#[]⟩) (.string ⟨#[]⟩) (.string ⟨#[]⟩) (.string ⟨#[]⟩) (.string ⟨#[]⟩) (.string ⟨#[]⟩) (.string ⟨#[]⟩) (.string ⟨#[]⟩) (.string ⟨#[]⟩))
  subst hc
  have HF2 := hide (show fieldsV (rowL 4) l0 (zeroM 4) = fieldsV [3, 10] l1 #[.int .i64 4, .int .u32 0, .int .u32 (x0 : Nat), .int .u64 0, .string ⟨#[]⟩, .string ⟨#[]⟩, .string ⟨#[]⟩, .string ⟨#[]⟩, .string ⟨#[]⟩, .string ⟨#[]⟩, .string ⟨#[]⟩, .string ⟨#[]⟩, .string ⟨#[]⟩] by rw [HF1.out, fields_yes hfv]; rfl)
  clear hfv hr
  go_wp2_with (go_at_call 29; refine (HFD.out _ (HA.out.only ((Only.refl [] _).alloc _) (by simp) (by simp)) (HM.out.alloc _) (HX2.out.alloc _)).mono ?_; rintro e w3 ⟨rfl, ho, hz⟩; (first | clear r0 r1 r2 r3 r4 r5 r6 r7 r8 r9 r10 r11 r12 rf | skip); replace HRB := hide ((HRB.out.alloc _).only ho (by have := HD.out; simp; omega)); replace HO := hide ((((HO.out.alloc _).mono (S' := [w.heap.size + 1, w1.heap.size]) (by simp)).trans ho).mono (S' := []) (by have := HD.out; simp; omega)); have r0 := HRB.out.cell 0; have r1 := HRB.out.cell 1; have r2 := HRB.out.cell 2; have r3 := HRB.out.cell 3; have r4 := HRB.out.cell 4; have r5 := HRB.out.cell 5; have r6 := HRB.out.cell 6; have r7 := HRB.out.cell 7; have r8 := HRB.out.cell 8; have r9 := HRB.out.cell 9; have r10 := HRB.out.cell 10; have r11 := HRB.out.cell 11; have r12 := HRB.out.cell 12; simp at r0 r1 r2 r3 r4 r5 r6 r7 r8 r9 r10 r11 r12; have rf := HRB.out.frozen; obtain ⟨ha, hm⟩ := hz (by trivial); replace HA := hide ha; replace HM := hide hm; replace HROW := hide ((HROW.out.alloc _).only ho (by have := HD.out; simp; omega)); replace HX1 := hide ((HX1.out.alloc _).only ho (by have := HD.out; simp; omega)); replace HX2 := hide ((HX2.out.alloc _).only ho (by have := HD.out; simp; omega)); clear ho hz ha hm)
  clear a0 a1 a2 a3 HFD
  rw [rounds_succ]
  have a0 := HROW.out.cell 4; have a1 := HROW.out.cell 5; have a2 := HROW.out.cell 6; have a3 := HROW.out.cell 7
  simp [row4C, numC, txtC, cntC] at a0 a1 a2 a3
  obtain ⟨⟨c, x1, l2⟩, hr⟩ : ∃ r, numV 8 l1 = r := ⟨_, rfl⟩
  have HL2 := hide (show l2.length ≤ 1099511627776 by have h := num_len 8 l1; rw [hr] at h; have := HL1.out; simp only at h; omega)
  have hfv : fieldV 3 l1 = (c, .int .u64 (x1 : Nat), l2) := by have e : fieldV 3 l1 = ((numV 8 l1).1, .int .u64 ((numV 8 l1).2.1 : Nat), (numV 8 l1).2.2) := rfl; rw [e, hr]
  have HFD := hide (fun W (ha : RdrAt W [w1.heap.size] (w.heap.size + 1) l1) (hm : Blk W w1.heap.size 27 #[.int .i64 4, .int .u32 0, .int .u32 (x0 : Nat), .int .u64 0, .string ⟨#[]⟩, .string ⟨#[]⟩, .string ⟨#[]⟩, .string ⟨#[]⟩, .string ⟨#[]⟩, .string ⟨#[]⟩, .string ⟨#[]⟩, .string ⟨#[]⟩, .string ⟨#[]⟩]) => field_c W [w1.heap.size] (w.heap.size + 1) w1.heap.size l1 HL1.out #[.int .i64 4, .int .u32 0, .int .u32 (x0 : Nat), .int .u64 0, .string ⟨#[]⟩, .string ⟨#[]⟩, .string ⟨#[]⟩, .string ⟨#[]⟩, .string ⟨#[]⟩, .string ⟨#[]⟩, .string ⟨#[]⟩, .string ⟨#[]⟩, .string ⟨#[]⟩] (y := 0) rfl ha (by simp) (by have := HD.out; omega) hm)
  unfold FieldPost at HFD
  rw [hr] at HFD
  simp only at HFD
  by_cases hc : c = 0
  case neg =>
    have hcb : (c != 0) = true := bne_iff_ne.2 hc
    have HV2 := hide (show readV l = (c, zeroM 0) by rw [HF0.out, HF2.out, fields_no hfv hc]; exact if_neg hc)
    clear hc hfv hr
    go_wp2_with (go_at_call 29; refine (HFD.out _ (HA.out.only ((Only.refl [] _).alloc _) (by simp) (by simp)) (HM.out.alloc _)).mono ?_; rintro e w3 ⟨rfl, ho, hz⟩; (first | clear r0 r1 r2 r3 r4 r5 r6 r7 r8 r9 r10 r11 r12 rf | skip); replace HRB := hide ((HRB.out.alloc _).only ho (by have := HD.out; simp; omega)); replace HO := hide ((((HO.out.alloc _).mono (S' := [w.heap.size + 1, w1.heap.size]) (by simp)).trans ho).mono (S' := []) (by have := HD.out; simp; omega)); have r0 := HRB.out.cell 0; have r1 := HRB.out.cell 1; have r2 := HRB.out.cell 2; have r3 := HRB.out.cell 3; have r4 := HRB.out.cell 4; have r5 := HRB.out.cell 5; have r6 := HRB.out.cell 6; have r7 := HRB.out.cell 7; have r8 := HRB.out.cell 8; have r9 := HRB.out.cell 9; have r10 := HRB.out.cell 10; have r11 := HRB.out.cell 11; have r12 := HRB.out.cell 12; simp at r0 r1 r2 r3 r4 r5 r6 r7 r8 r9 r10 r11 r12; have rf := HRB.out.frozen; clear ho hz)
    refine bodyPost_ret (results_cell_two rfl _ _ w.heap.size 27 _ (0, 0) _ rfl (set13 HRB.out (.int .i64 0) (.int .u32 0) (.int .u32 0) (.int .u64 0) (.string ⟨#[]⟩) (.string ⟨#[]⟩) (.string ⟨#[]⟩) (.string ⟨#[]⟩) (.string ⟨#[]⟩) (.string ⟨#[]⟩) (.string ⟨#[]⟩) (.string ⟨#[]⟩) (.string ⟨#[]⟩)) Try.underlying27 rfl (by kernel_rfl)) rfl ?_
    exact readw HV2.out (only13 HO.out (.inr (Nat.le_refl _)) (.int .i64 0) (.int .u32 0) (.int .u32 0) (.int .u64 0) (.string ⟨#[]⟩) (.string ⟨#[]⟩) (.string ⟨#[]⟩) (.string ⟨#[]⟩) (.string ⟨#[]⟩) (.string ⟨#[]⟩) (.string ⟨#[]⟩) (.string ⟨#[]⟩) (.string ⟨#[]⟩))
  subst hc
  have HF3 := hide (show fieldsV (rowL 4) l0 (zeroM 4) = fieldsV [10] l2 #[.int .i64 4, .int .u32 0, .int .u32 (x0 : Nat), .int .u64 (x1 : Nat), .string ⟨#[]⟩, .string ⟨#[]⟩, .string ⟨#[]⟩, .string ⟨#[]⟩, .string ⟨#[]⟩, .string ⟨#[]⟩, .string ⟨#[]⟩, .string ⟨#[]⟩, .string ⟨#[]⟩] by rw [HF2.out, fields_yes hfv]; rfl)
  clear hfv hr
  go_wp2_with (go_at_call 29; refine (HFD.out _ (HA.out.only ((Only.refl [] _).alloc _) (by simp) (by simp)) (HM.out.alloc _)).mono ?_; rintro e w3 ⟨rfl, ho, hz⟩; (first | clear r0 r1 r2 r3 r4 r5 r6 r7 r8 r9 r10 r11 r12 rf | skip); replace HRB := hide ((HRB.out.alloc _).only ho (by have := HD.out; simp; omega)); replace HO := hide ((((HO.out.alloc _).mono (S' := [w.heap.size + 1, w1.heap.size]) (by simp)).trans ho).mono (S' := []) (by have := HD.out; simp; omega)); have r0 := HRB.out.cell 0; have r1 := HRB.out.cell 1; have r2 := HRB.out.cell 2; have r3 := HRB.out.cell 3; have r4 := HRB.out.cell 4; have r5 := HRB.out.cell 5; have r6 := HRB.out.cell 6; have r7 := HRB.out.cell 7; have r8 := HRB.out.cell 8; have r9 := HRB.out.cell 9; have r10 := HRB.out.cell 10; have r11 := HRB.out.cell 11; have r12 := HRB.out.cell 12; simp at r0 r1 r2 r3 r4 r5 r6 r7 r8 r9 r10 r11 r12; have rf := HRB.out.frozen; obtain ⟨ha, hm⟩ := hz (by trivial); replace HA := hide ha; replace HM := hide hm; replace HROW := hide ((HROW.out.alloc _).only ho (by have := HD.out; simp; omega)); replace HX1 := hide ((HX1.out.alloc _).only ho (by have := HD.out; simp; omega)); replace HX2 := hide ((HX2.out.alloc _).only ho (by have := HD.out; simp; omega)); clear ho hz ha hm)
  clear a0 a1 a2 a3 HFD
  rw [rounds_succ]
  have a0 := HROW.out.cell 8; have a1 := HROW.out.cell 9; have a2 := HROW.out.cell 10; have a3 := HROW.out.cell 11
  simp [row4C, numC, txtC, cntC] at a0 a1 a2 a3
  obtain ⟨⟨c, x2, l3⟩, hr⟩ : ∃ r, textV l2 = r := ⟨_, rfl⟩
  have HL3 := hide (show l3.length ≤ 1099511627776 by have h := text_len l2; rw [hr] at h; have := HL2.out; simp only at h; omega)
  have hfv : fieldV 10 l2 = (c, .string x2, l3) := by have e : fieldV 10 l2 = ((textV l2).1, .string (textV l2).2.1, (textV l2).2.2) := rfl; rw [e, hr]
  have HFD := hide (fun W (ha : RdrAt W [w1.heap.size] (w.heap.size + 1) l2) (hm : Blk W w1.heap.size 27 #[.int .i64 4, .int .u32 0, .int .u32 (x0 : Nat), .int .u64 (x1 : Nat), .string ⟨#[]⟩, .string ⟨#[]⟩, .string ⟨#[]⟩, .string ⟨#[]⟩, .string ⟨#[]⟩, .string ⟨#[]⟩, .string ⟨#[]⟩, .string ⟨#[]⟩, .string ⟨#[]⟩]) => field_10 W [w1.heap.size] (w.heap.size + 1) w1.heap.size l2 HL2.out #[.int .i64 4, .int .u32 0, .int .u32 (x0 : Nat), .int .u64 (x1 : Nat), .string ⟨#[]⟩, .string ⟨#[]⟩, .string ⟨#[]⟩, .string ⟨#[]⟩, .string ⟨#[]⟩, .string ⟨#[]⟩, .string ⟨#[]⟩, .string ⟨#[]⟩, .string ⟨#[]⟩] rfl ha (by simp) (by have := HD.out; omega) hm)
  unfold FieldPost at HFD
  rw [hr] at HFD
  simp only at HFD
  by_cases hc : c = 0
  case neg =>
    have hcb : (c != 0) = true := bne_iff_ne.2 hc
    have HV2 := hide (show readV l = (c, zeroM 0) by rw [HF0.out, HF3.out, fields_no hfv hc]; exact if_neg hc)
    clear hc hfv hr
    go_wp2_with (go_at_call 29; refine (HFD.out _ (HA.out.only ((Only.refl [] _).alloc _) (by simp) (by simp)) (HM.out.alloc _)).mono ?_; rintro e w3 ⟨rfl, ho, hz⟩; (first | clear r0 r1 r2 r3 r4 r5 r6 r7 r8 r9 r10 r11 r12 rf | skip); replace HRB := hide ((HRB.out.alloc _).only ho (by have := HD.out; simp; omega)); replace HO := hide ((((HO.out.alloc _).mono (S' := [w.heap.size + 1, w1.heap.size]) (by simp)).trans ho).mono (S' := []) (by have := HD.out; simp; omega)); have r0 := HRB.out.cell 0; have r1 := HRB.out.cell 1; have r2 := HRB.out.cell 2; have r3 := HRB.out.cell 3; have r4 := HRB.out.cell 4; have r5 := HRB.out.cell 5; have r6 := HRB.out.cell 6; have r7 := HRB.out.cell 7; have r8 := HRB.out.cell 8; have r9 := HRB.out.cell 9; have r10 := HRB.out.cell 10; have r11 := HRB.out.cell 11; have r12 := HRB.out.cell 12; simp at r0 r1 r2 r3 r4 r5 r6 r7 r8 r9 r10 r11 r12; have rf := HRB.out.frozen; clear ho hz)
    refine bodyPost_ret (results_cell_two rfl _ _ w.heap.size 27 _ (0, 0) _ rfl (set13 HRB.out (.int .i64 0) (.int .u32 0) (.int .u32 0) (.int .u64 0) (.string ⟨#[]⟩) (.string ⟨#[]⟩) (.string ⟨#[]⟩) (.string ⟨#[]⟩) (.string ⟨#[]⟩) (.string ⟨#[]⟩) (.string ⟨#[]⟩) (.string ⟨#[]⟩) (.string ⟨#[]⟩)) Try.underlying27 rfl (by kernel_rfl)) rfl ?_
    exact readw HV2.out (only13 HO.out (.inr (Nat.le_refl _)) (.int .i64 0) (.int .u32 0) (.int .u32 0) (.int .u64 0) (.string ⟨#[]⟩) (.string ⟨#[]⟩) (.string ⟨#[]⟩) (.string ⟨#[]⟩) (.string ⟨#[]⟩) (.string ⟨#[]⟩) (.string ⟨#[]⟩) (.string ⟨#[]⟩) (.string ⟨#[]⟩))
  subst hc
  have HF4 := hide (show fieldsV (rowL 4) l0 (zeroM 4) = fieldsV [] l3 #[.int .i64 4, .int .u32 0, .int .u32 (x0 : Nat), .int .u64 (x1 : Nat), .string ⟨#[]⟩, .string ⟨#[]⟩, .string ⟨#[]⟩, .string ⟨#[]⟩, .string ⟨#[]⟩, .string ⟨#[]⟩, .string x2, .string ⟨#[]⟩, .string ⟨#[]⟩] by rw [HF3.out, fields_yes hfv]; rfl)
  clear hfv hr
  go_wp2_with (go_at_call 29; refine (HFD.out _ (HA.out.only ((Only.refl [] _).alloc _) (by simp) (by simp)) (HM.out.alloc _)).mono ?_; rintro e w3 ⟨rfl, ho, hz⟩; (first | clear r0 r1 r2 r3 r4 r5 r6 r7 r8 r9 r10 r11 r12 rf | skip); replace HRB := hide ((HRB.out.alloc _).only ho (by have := HD.out; simp; omega)); replace HO := hide ((((HO.out.alloc _).mono (S' := [w.heap.size + 1, w1.heap.size]) (by simp)).trans ho).mono (S' := []) (by have := HD.out; simp; omega)); have r0 := HRB.out.cell 0; have r1 := HRB.out.cell 1; have r2 := HRB.out.cell 2; have r3 := HRB.out.cell 3; have r4 := HRB.out.cell 4; have r5 := HRB.out.cell 5; have r6 := HRB.out.cell 6; have r7 := HRB.out.cell 7; have r8 := HRB.out.cell 8; have r9 := HRB.out.cell 9; have r10 := HRB.out.cell 10; have r11 := HRB.out.cell 11; have r12 := HRB.out.cell 12; simp at r0 r1 r2 r3 r4 r5 r6 r7 r8 r9 r10 r11 r12; have rf := HRB.out.frozen; obtain ⟨ha, hm⟩ := hz (by trivial); replace HA := hide ha; replace HM := hide hm; replace HROW := hide ((HROW.out.alloc _).only ho (by have := HD.out; simp; omega)); replace HX1 := hide ((HX1.out.alloc _).only ho (by have := HD.out; simp; omega)); replace HX2 := hide ((HX2.out.alloc _).only ho (by have := HD.out; simp; omega)); clear ho hz ha hm)
  clear a0 a1 a2 a3 HFD
  rw [rounds_succ]
  obtain ⟨G2, O2, cap2, hg2, _⟩ := HA.out
  have q0 := hg2.cell 0
  simp at q0
  by_cases hn : l3 = []
  · have hz : l3.length = 0 := by rw [hn]; rfl
    rw [hz] at q0
    have HV2 := hide (show readV l = (0, #[.int .i64 4, .int .u32 0, .int .u32 (x0 : Nat), .int .u64 (x1 : Nat), .string ⟨#[]⟩, .string ⟨#[]⟩, .string ⟨#[]⟩, .string ⟨#[]⟩, .string ⟨#[]⟩, .string ⟨#[]⟩, .string x2, .string ⟨#[]⟩, .string ⟨#[]⟩]) by rw [HF0.out, HF4.out, hn]; rfl)
    have m0 := HM.out.cell 0; have m1 := HM.out.cell 1; have m2 := HM.out.cell 2; have m3 := HM.out.cell 3; have m4 := HM.out.cell 4; have m5 := HM.out.cell 5; have m6 := HM.out.cell 6; have m7 := HM.out.cell 7; have m8 := HM.out.cell 8; have m9 := HM.out.cell 9; have m10 := HM.out.cell 10; have m11 := HM.out.cell 11; have m12 := HM.out.cell 12
    simp at m0 m1 m2 m3 m4 m5 m6 m7 m8 m9 m10 m11 m12
    clear hn hz hg2
    go_wp2_with fail
    refine bodyPost_ret (results_cell_two rfl _ _ w.heap.size 27 _ (0, 0) _ rfl (set13 HRB.out (.int .i64 4) (.int .u32 0) (.int .u32 (x0 : Nat)) (.int .u64 (x1 : Nat)) (.string ⟨#[]⟩) (.string ⟨#[]⟩) (.string ⟨#[]⟩) (.string ⟨#[]⟩) (.string ⟨#[]⟩) (.string ⟨#[]⟩) (.string x2) (.string ⟨#[]⟩) (.string ⟨#[]⟩)) Try.underlying27 rfl (by kernel_rfl)) rfl ?_
    exact readw HV2.out (only13 HO.out (.inr (Nat.le_refl _)) (.int .i64 4) (.int .u32 0) (.int .u32 (x0 : Nat)) (.int .u64 (x1 : Nat)) (.string ⟨#[]⟩) (.string ⟨#[]⟩) (.string ⟨#[]⟩) (.string ⟨#[]⟩) (.string ⟨#[]⟩) (.string ⟨#[]⟩) (.string x2) (.string ⟨#[]⟩) (.string ⟨#[]⟩))
  · have hp : 0 < l3.length := List.length_pos_iff.2 hn
    have hpI : (0 : Int) < l3.length := by omega
    have HV2 := hide (show readV l = (5, zeroM 0) by rw [HF0.out, HF4.out]; exact (if_pos rfl).trans (if_neg hn))
    clear hn hg2
    go_wp2_with fail
    refine bodyPost_ret (results_cell_two rfl _ _ w.heap.size 27 _ (0, 0) _ rfl (set13 HRB.out (.int .i64 0) (.int .u32 0) (.int .u32 0) (.int .u64 0) (.string ⟨#[]⟩) (.string ⟨#[]⟩) (.string ⟨#[]⟩) (.string ⟨#[]⟩) (.string ⟨#[]⟩) (.string ⟨#[]⟩) (.string ⟨#[]⟩) (.string ⟨#[]⟩) (.string ⟨#[]⟩)) Try.underlying27 rfl (by kernel_rfl)) rfl ?_
    exact readw HV2.out (only13 HO.out (.inr (Nat.le_refl _)) (.int .i64 0) (.int .u32 0) (.int .u32 0) (.int .u64 0) (.string ⟨#[]⟩) (.string ⟨#[]⟩) (.string ⟨#[]⟩) (.string ⟨#[]⟩) (.string ⟨#[]⟩) (.string ⟨#[]⟩) (.string ⟨#[]⟩) (.string ⟨#[]⟩) (.string ⟨#[]⟩))
end
section
open Go.RowKit Go.Deep

theorem zero_len (n : Nat) (l : List UInt8) : (zeroV n l).2.length ≤ l.length := by
  induction n generalizing l with
  | zero => exact Nat.le_refl _
  | succ n ih =>
    cases l with
    | nil => simp [zeroV]
    | cons b r =>
      rw [zeroV]
      split
      · have := ih r; simp only [List.length_cons]; omega
      · simp
/-- The head of a message, by cases. -/
theorem head_cases (l : List UInt8) : (∃ c, headV l = (c, 0, []) ∧ c ≠ 0) ∨ ∃ k q, headV l = (0, k, q) ∧ (k = 1 ∨ k = 2 ∨ k = 3 ∨ k = 4) ∧ q.length ≤ l.length ∧ l ≠ [] := by
  cases l with
  | nil => exact .inl ⟨4, rfl, by decide⟩
  | cons c r =>
    by_cases hk : c = 1 ∨ c = 2 ∨ c = 3 ∨ c = 4
    · have e : headV (c :: r) = if (zeroV 3 r).1 = 0 then (0, (c.toNat : Int), (zeroV 3 r).2) else ((zeroV 3 r).1, 0, []) := if_pos hk
      by_cases hz : (zeroV 3 r).1 = 0
      · rw [if_pos hz] at e
        refine .inr ⟨_, _, e, ?_, by have := zero_len 3 r; simp only [List.length_cons]; omega, by simp⟩
        rcases hk with rfl | rfl | rfl | rfl <;> decide
      · rw [if_neg hz] at e
        exact .inl ⟨_, e, hz⟩
    · exact .inl ⟨3, if_neg hk, by decide⟩

set_option maxRecDepth 100000 in
set_option maxHeartbeats 6400000 in
theorem Read_err (w : World) (bv : Value) (l : List UInt8) (hl : l.length ≤ 1099511627776) (c : Int) (hh : headV l = (c, 0, [])) (hc : c ≠ 0) (hne : l ≠ []) (hb : Rd w [] bv (ints .u8 (byts l))) :
    Calls Try.prog 7 #[bv] w (ReadPostW (readV l) w) := by
  obtain ⟨A, cap, rfl, hc1, hc2⟩ := hb.formb
  obtain ⟨G, O, rfl, _⟩ : ∃ G O, A = some ⟨G, O, none⟩ ∧ True := by
    obtain ⟨b, r, rfl⟩ := List.exists_cons_of_ne_nil hne
    obtain ⟨g, o, h, _⟩ := hb.at_.2.2.2 0 (.int .u8 (b.toNat : Int)) rfl
    exact ⟨g, o, h, trivial⟩
  have HO := hide (((Only.refl [] w).alloc (.cells (zeroM 0) 27)).alloc (.cells #[.slice (some ⟨G, O, none⟩) l.length cap] 55))
  have HRB := hide ((Blk.new w 27 (zeroM 0)).alloc (.cells #[.slice (some ⟨G, O, none⟩) l.length cap] 55))
  have HA := hide (show RdrAt ((w.alloc (.cells (zeroM 0) 27)).alloc (.cells #[.slice (some ⟨G, O, none⟩) l.length cap] 55)) [] (w.heap.size + 1) l from by
    have h := Blk.new (w.alloc (.cells (zeroM 0) 27)) 55 #[.slice (some ⟨G, O, none⟩) l.length cap]
    rw [World.size_alloc] at h
    exact ⟨G, O, cap, h, (hb.more (by intro x hx; rw [List.mem_singleton.1 hx]; right; omega)).only HO.out (by simp)⟩)
  unfold zeroM at HO HRB HA
  have HH := hide (fun W ha => head_w W [] (w.heap.size + 1) l hl ha)
  unfold HeadPost at HH
  rw [hh] at HH
  simp only at HH
  have HV2 := hide (show readV l = (c, zeroM 0) by rw [read_head (by rw [hh]; exact hc), hh])
  have hcb : (c != 0) = true := bne_iff_ne.2 hc
  clear hb hl hh hne hc
  go_enter Try.func7, Try.ntmps7
  go_wp2_with (go_at_call 27; refine (HH.out _ HA.out).mono ?_; rintro e w1 ⟨rfl, ho, ha⟩; replace HRB := hide (HRB.out.only ho (by simp)); replace HO := hide (((HO.out.mono (S' := [w.heap.size + 1]) (by simp)).trans ho).mono (S' := []) (by simp)); have r0 := HRB.out.cell 0; have r1 := HRB.out.cell 1; have r2 := HRB.out.cell 2; have r3 := HRB.out.cell 3; have r4 := HRB.out.cell 4; have r5 := HRB.out.cell 5; have r6 := HRB.out.cell 6; have r7 := HRB.out.cell 7; have r8 := HRB.out.cell 8; have r9 := HRB.out.cell 9; have r10 := HRB.out.cell 10; have r11 := HRB.out.cell 11; have r12 := HRB.out.cell 12; simp at r0 r1 r2 r3 r4 r5 r6 r7 r8 r9 r10 r11 r12; have rf := HRB.out.frozen; clear ho ha)
  refine bodyPost_ret (results_cell_two rfl _ _ w.heap.size 27 _ (0, 0) _ rfl (set13 HRB.out (.int .i64 0) (.int .u32 0) (.int .u32 0) (.int .u64 0) (.string ⟨#[]⟩) (.string ⟨#[]⟩) (.string ⟨#[]⟩) (.string ⟨#[]⟩) (.string ⟨#[]⟩) (.string ⟨#[]⟩) (.string ⟨#[]⟩) (.string ⟨#[]⟩) (.string ⟨#[]⟩)) Try.underlying27 rfl (by kernel_rfl)) rfl ?_
  exact readw HV2.out (only13 HO.out (.inr (Nat.le_refl _)) _ _ _ _ _ _ _ _ _ _ _ _ _)

theorem Read_any (w : World) (bv : Value) (l : List UInt8) (hl : l.length ≤ 1099511627776) (hb : Rd w [] bv (ints .u8 (byts l))) :
    Calls Try.prog 7 #[bv] w (ReadPostW (readV l) w) := by
  by_cases hne : l = []
  · subst hne
    obtain ⟨A, cap, rfl, _⟩ := hb.formb
    exact Read_nil w A cap
  · rcases head_cases l with ⟨c, hh, hc⟩ | ⟨k, q, hh, hk, hq, _⟩
    · exact Read_err w bv l hl c hh hc hne hb
    · rcases hk with rfl | rfl | rfl | rfl
      · exact Read_1 w bv l hl q hh hq hne hb
      · exact Read_2 w bv l hl q hh hq hne hb
      · exact Read_3 w bv l hl q hh hq hne hb
      · exact Read_4 w bv l hl q hh hq hne hb
end
section
open Go.RowKit Go.Deep

def strc (ts : List ByteArray) : List Value := ts.map .string
end
section
open Go.RowKit Go.Deep

/-- A message. -/
structure Mg where
  k : Int
  s : Nat
  r : Nat
  c : Nat
  x4 : ByteArray
  x5 : ByteArray
  x6 : ByteArray
  x7 : ByteArray
  x8 : ByteArray
  x9 : ByteArray
  x10 : ByteArray
  x11 : ByteArray
  x12 : ByteArray
/-- Its cells. -/
def Mg.cells (m : Mg) : Array Value := #[.int .i64 m.k, .int .u32 m.s, .int .u32 m.r, .int .u64 m.c, .string m.x4, .string m.x5, .string m.x6, .string m.x7, .string m.x8, .string m.x9, .string m.x10, .string m.x11, .string m.x12]
def eqM (m n : Mg) : Bool := m.k == n.k && m.s == n.s && m.r == n.r && m.c == n.c && m.x4.toList == n.x4.toList && m.x5.toList == n.x5.toList && m.x6.toList == n.x6.toList && m.x7.toList == n.x7.toList && m.x8.toList == n.x8.toList && m.x9.toList == n.x9.toList && m.x10.toList == n.x10.toList && m.x11.toList == n.x11.toList && m.x12.toList == n.x12.toList
set_option maxRecDepth 100000 in
set_option maxHeartbeats 3200000 in
theorem msg_fields : Try.prog.underlying 27 = some (.struct (Try.prog.fieldsOf 27)) := by kernel_rfl
set_option maxRecDepth 100000 in
set_option maxHeartbeats 3200000 in
theorem msg_eql (m n : Mg) (w : World) : (binOp .eql 27 (.agg m.cells) (.agg n.cells)).run Try.prog w = .ok (.bool (eqM m n)) w := by
  rw [run_eql_struct, run_equalIn_agg w 9999 _ _ _ msg_fields (by kernel_rfl)]
  obtain ⟨k, s, r, c, x4, x5, x6, x7, x8, x9, x10, x11, x12⟩ := m
  obtain ⟨k', s', r', c', y4, y5, y6, y7, y8, y9, y10, y11, y12⟩ := n
  simp [Mg.cells, eqM, Program.fieldsOf, Try.underlying27, Op.eqFields, go_sem]
  by_cases h : k = k'
  case neg =>
    rw [if_neg h]
    have e : (k == k') = false := by rw [beq_eq_false_iff_ne]; exact h
    simp only [e, Bool.false_and]
  rw [if_pos h]
  have e : (k == k') = true := by rw [beq_iff_eq]; exact h
  simp only [e, Bool.true_and]
  clear h e
  by_cases h : (s : Int) = s'
  case neg =>
    rw [if_neg h]
    have e : (s == s') = false := by rw [beq_eq_false_iff_ne]; omega
    simp only [e, Bool.false_and]
  rw [if_pos h]
  have e : (s == s') = true := by rw [beq_iff_eq]; omega
  simp only [e, Bool.true_and]
  clear h e
  by_cases h : (r : Int) = r'
  case neg =>
    rw [if_neg h]
    have e : (r == r') = false := by rw [beq_eq_false_iff_ne]; omega
    simp only [e, Bool.false_and]
  rw [if_pos h]
  have e : (r == r') = true := by rw [beq_iff_eq]; omega
  simp only [e, Bool.true_and]
  clear h e
  by_cases h : (c : Int) = c'
  case neg =>
    rw [if_neg h]
    have e : (c == c') = false := by rw [beq_eq_false_iff_ne]; omega
    simp only [e, Bool.false_and]
  rw [if_pos h]
  have e : (c == c') = true := by rw [beq_iff_eq]; omega
  simp only [e, Bool.true_and]
  clear h e
  by_cases h : x4.toList = y4.toList
  case neg =>
    rw [if_neg h]
    have e : (x4.toList == y4.toList) = false := by rw [beq_eq_false_iff_ne]; exact h
    simp only [e, Bool.false_and]
  rw [if_pos h]
  have e : (x4.toList == y4.toList) = true := by rw [beq_iff_eq]; exact h
  simp only [e, Bool.true_and]
  clear h e
  by_cases h : x5.toList = y5.toList
  case neg =>
    rw [if_neg h]
    have e : (x5.toList == y5.toList) = false := by rw [beq_eq_false_iff_ne]; exact h
    simp only [e, Bool.false_and]
  rw [if_pos h]
  have e : (x5.toList == y5.toList) = true := by rw [beq_iff_eq]; exact h
  simp only [e, Bool.true_and]
  clear h e
  by_cases h : x6.toList = y6.toList
  case neg =>
    rw [if_neg h]
    have e : (x6.toList == y6.toList) = false := by rw [beq_eq_false_iff_ne]; exact h
    simp only [e, Bool.false_and]
  rw [if_pos h]
  have e : (x6.toList == y6.toList) = true := by rw [beq_iff_eq]; exact h
  simp only [e, Bool.true_and]
  clear h e
  by_cases h : x7.toList = y7.toList
  case neg =>
    rw [if_neg h]
    have e : (x7.toList == y7.toList) = false := by rw [beq_eq_false_iff_ne]; exact h
    simp only [e, Bool.false_and]
  rw [if_pos h]
  have e : (x7.toList == y7.toList) = true := by rw [beq_iff_eq]; exact h
  simp only [e, Bool.true_and]
  clear h e
  by_cases h : x8.toList = y8.toList
  case neg =>
    rw [if_neg h]
    have e : (x8.toList == y8.toList) = false := by rw [beq_eq_false_iff_ne]; exact h
    simp only [e, Bool.false_and]
  rw [if_pos h]
  have e : (x8.toList == y8.toList) = true := by rw [beq_iff_eq]; exact h
  simp only [e, Bool.true_and]
  clear h e
  by_cases h : x9.toList = y9.toList
  case neg =>
    rw [if_neg h]
    have e : (x9.toList == y9.toList) = false := by rw [beq_eq_false_iff_ne]; exact h
    simp only [e, Bool.false_and]
  rw [if_pos h]
  have e : (x9.toList == y9.toList) = true := by rw [beq_iff_eq]; exact h
  simp only [e, Bool.true_and]
  clear h e
  by_cases h : x10.toList = y10.toList
  case neg =>
    rw [if_neg h]
    have e : (x10.toList == y10.toList) = false := by rw [beq_eq_false_iff_ne]; exact h
    simp only [e, Bool.false_and]
  rw [if_pos h]
  have e : (x10.toList == y10.toList) = true := by rw [beq_iff_eq]; exact h
  simp only [e, Bool.true_and]
  clear h e
  by_cases h : x11.toList = y11.toList
  case neg =>
    rw [if_neg h]
    have e : (x11.toList == y11.toList) = false := by rw [beq_eq_false_iff_ne]; exact h
    simp only [e, Bool.false_and]
  rw [if_pos h]
  have e : (x11.toList == y11.toList) = true := by rw [beq_iff_eq]; exact h
  simp only [e, Bool.true_and]
  clear h e
  by_cases h : x12.toList = y12.toList
  case neg =>
    rw [if_neg h]
    have e : (x12.toList == y12.toList) = false := by rw [beq_eq_false_iff_ne]; exact h
    simp only [e, Bool.false_and]
  rw [if_pos h]
  have e : (x12.toList == y12.toList) = true := by rw [beq_iff_eq]; exact h
  simp only [e]
end
section
open Go.RowKit Go.Deep

def noT : ByteArray := ⟨#[]⟩
/-- The texts of a message's row. -/
def textsM (m : Mg) : List ByteArray := if m.k = 1 then [m.x4, m.x5, m.x6, m.x11, m.x12] else if m.k = 2 then [m.x4, m.x7, m.x11, m.x12] else if m.k = 3 then [m.x8, m.x9] else [m.x10]
/-- The message with the fields of its row alone. -/
def onlyM (m : Mg) : Mg :=
  if m.k = 1 then ⟨1, m.s, 0, 0, m.x4, m.x5, m.x6, noT, noT, noT, noT, m.x11, m.x12⟩
  else if m.k = 2 then ⟨2, m.s, m.r, 0, m.x4, noT, noT, m.x7, noT, noT, noT, m.x11, m.x12⟩
  else if m.k = 3 then ⟨3, 0, m.r, 0, noT, noT, noT, noT, m.x8, m.x9, noT, noT, noT⟩
  else ⟨4, 0, m.r, m.c, noT, noT, noT, noT, noT, noT, m.x10, noT, noT⟩
/-- Is it a message? -/
def rightM (m : Mg) : Bool := decide (1 ≤ m.k ∧ m.k ≤ 4) && ((textsM m).all fitW && eqM (onlyM m) m)
/-- What fits the machine. -/
structure Mg.Fine (m : Mg) : Prop where
  s : m.s < 4294967296
  r : m.r < 4294967296
  c : m.c < 18446744073709551616
  x4 : m.x4.size ≤ maxLen
  x5 : m.x5.size ≤ maxLen
  x6 : m.x6.size ≤ maxLen
  x7 : m.x7.size ≤ maxLen
  x8 : m.x8.size ≤ maxLen
  x9 : m.x9.size ≤ maxLen
  x10 : m.x10.size ≤ maxLen
  x11 : m.x11.size ≤ maxLen
  x12 : m.x12.size ≤ maxLen

/-- What proper hands back: the row, where the message is right. -/
def PropPost (n : Nat) (C : Nat → Nat → List Value) (b : Bool) (w : World) (e : Ending) (w' : World) : Prop :=
  ∃ fv, e = .returned (.tuple #[fv, .bool b]) ∧ Only [] w w' ∧ (b = true → ∃ g b1 b2, fv = .slice (some ⟨g, 0, none⟩) n n ∧ w.heap.size ≤ g ∧ w.heap.size ≤ b1 ∧ w.heap.size ≤ b2 ∧ Blk w' g 63 (C b1 b2).toArray ∧
    Blk w' b1 91 #[fnV 47] ∧ Blk w' b2 91 #[fnV 48])
theorem prop_no {n : Nat} {C : Nat → Nat → List Value} {b : Bool} {fv : Value} {w w' : World} (h : b = false) (ho : Only [] w w') : PropPost n C b w (.returned (.tuple #[fv, .bool false])) w' := by
  subst h
  exact ⟨fv, rfl, ho, fun h => by cases h⟩
theorem prop_is {n : Nat} {C : Nat → Nat → List Value} {b b' : Bool} {w w' : World} {g b1 b2 : Nat} (h : b = b') (h1 : w.heap.size ≤ g) (h2 : w.heap.size ≤ b1) (h3 : w.heap.size ≤ b2) (h4 : Blk w' g 63 (C b1 b2).toArray)
    (h5 : Blk w' b1 91 #[fnV 47]) (h6 : Blk w' b2 91 #[fnV 48]) (h7 : Only [] w w') : PropPost n C b w (.returned (.tuple #[.slice (some ⟨g, 0, none⟩) n n, .bool b'])) w' := by
  subst h
  exact ⟨_, rfl, h7, fun _ => ⟨g, b1, b2, rfl, h1, h2, h3, h4, h5, h6⟩⟩
end
section
open Go.RowKit Go.Deep

theorem below_refl_ (B : Nat) (w : World) : Below B w w := ⟨rfl, rfl, rfl, Nat.le_refl _, fun _ _ => rfl⟩
theorem below_grown_ {B : Nat} {w w' w2 : World} (h : Below B w w') {row : Option Nat} (hg : w'.grownBy w2 row) (hr : ∀ k, row = some k → B ≤ k) (hB : B ≤ w'.heap.size) : Below B w w2 :=
  ⟨hg.os.trans h.os, hg.tape.trans h.tape, hg.output.trans h.output, Nat.le_trans h.size hg.size, fun i hi => (hg.block i (by omega) (fun e => by have := hr i e.symm; omega)).trans (h.block i hi)⟩
end
section
open Go.RowKit Go.Deep

theorem fit_size {x : ByteArray} (h : fitW x = true) : x.size ≤ 65535 := by
  unfold fitW at h
  rw [Bool.and_eq_true] at h
  exact of_decide_eq_true h.1
theorem only_below {S : List Nat} {B : Nat} {w u u' : World} (h : Only S w u) (hb : Below B u u') (hB : w.heap.size ≤ B) : Only S w u' :=
  ⟨hb.os.trans h.os, hb.tape.trans h.tape, hb.output.trans h.output, Nat.le_trans h.size hb.size, fun i hi hn => (hb.block i (by omega)).trans (h.block i hi hn)⟩
theorem below_row {B : Nat} {w w2 : World} {row : Option Nat} (hg : w.grownBy w2 row) (hr : ∀ k, row = some k → B ≤ k) (hB : B ≤ w.heap.size) : Below B w w2 := below_grown_ (below_refl_ B w) hg hr hB
/-- What Terms hands back. -/
def TermsPost (m : Mg) (w : World) (e : Ending) (w' : World) : Prop :=
  Only [] w w' ∧ if rightM m = true then ∃ v, e = .returned v ∧ Rd w' [] v (strc (textsM m)) else e = .returned (.slice none 0 0)
theorem terms_no {m : Mg} {w w' : World} (h : rightM m = false) (ho : Only [] w w') : TermsPost m w (.returned (.slice none 0 0)) w' := ⟨ho, by rw [if_neg (by rw [h]; decide)]⟩
theorem terms_yes {m : Mg} {w w' : World} {v : Value} {l : List ByteArray} {B n : Nat} (h : rightM m = true) (hl : textsM m = l) (ho : Only [] w w') (hown : w'.ownsRow B 9 1 v n (strc l)) : TermsPost m w (.returned v) w' :=
  ⟨ho, by rw [if_pos h, hl]; exact ⟨v, rfl, (Rd.of_own (N := []) hown (by simp)).1⟩⟩
end
section
open Go.RowKit Go.Deep

set_option maxRecDepth 100000 in
set_option maxHeartbeats 12800000 in
theorem proper_1 (w : World) (s r c : Nat) (x4 x5 x6 x7 x8 x9 x10 x11 x12 : ByteArray) (hF : (Mg.mk 1 s r c x4 x5 x6 x7 x8 x9 x10 x11 x12).Fine) :
    Calls Try.prog 33 #[.agg #[.int .i64 1, .int .u32 (s : Nat), .int .u32 (r : Nat), .int .u64 (c : Nat), .string x4, .string x5, .string x6, .string x7, .string x8, .string x9, .string x10, .string x11, .string x12]] w (PropPost 6 row1C (rightM (Mg.mk 1 s r c x4 x5 x6 x7 x8 x9 x10 x11 x12)) w) := by
  have hst := fun (W : World) (a : Addr) (fn : Fn) (c : Array Value) => (run_store Try.prog W a (.func fn #[] c) .plain rfl : (store a (.func fn #[] c)).run Try.prog W = stored Try.prog W a (.func fn #[] c) .plain)
  have hsn := fun (W : World) (a : Addr) => (run_store Try.prog W a .nilFunc .plain rfl : (store a .nilFunc).run Try.prog W = stored Try.prog W a .nilFunc .plain)
  obtain ⟨hs, hr, hc, hx4, hx5, hx6, hx7, hx8, hx9, hx10, hx11, hx12⟩ := hF
  simp only at hs hr hc hx4 hx5 hx6 hx7 hx8 hx9 hx10 hx11 hx12
  have HRW := hide (fun W => row_1 W)
  unfold RowPost at HRW
  have HMB := hide (Blk.new w 27 #[.int .i64 1, .int .u32 (s : Nat), .int .u32 (r : Nat), .int .u64 (c : Nat), .string x4, .string x5, .string x6, .string x7, .string x8, .string x9, .string x10, .string x11, .string x12])
  have HO := hide ((Only.refl [] w).alloc (.cells #[.int .i64 1, .int .u32 (s : Nat), .int .u32 (r : Nat), .int .u64 (c : Nat), .string x4, .string x5, .string x6, .string x7, .string x8, .string x9, .string x10, .string x11, .string x12] 27))
  go_enter Try.func33, Try.ntmps33
  go_upto_region 4 with (go_at_call 28; refine (HRW.out _).mono ?_; rintro e w1 ⟨g, b1, b2, rfl, hg, hb1, hb2, hrow, hx1, hx2, ho⟩; rw [World.size_alloc] at hg hb1 hb2; have HROW := hide hrow; have HX1 := hide hx1; have HX2 := hide hx2; have HGR := hide hg; have HB1 := hide hb1; have HB2 := hide hb2; replace HMB := hide (HMB.out.only ho (by simp)); replace HO := hide (HO.out.trans ho); clear hg hb1 hb2 hrow hx1 hx2 ho; have m0 := HMB.out.cell 0; simp at m0)
  have HPB := hide (Blk.new w1 27 #[.int .i64 1, .int .u32 0, .int .u32 0, .int .u64 0, .string ⟨#[]⟩, .string ⟨#[]⟩, .string ⟨#[]⟩, .string ⟨#[]⟩, .string ⟨#[]⟩, .string ⟨#[]⟩, .string ⟨#[]⟩, .string ⟨#[]⟩, .string ⟨#[]⟩])
  have HD := hide (show w.heap.size < w1.heap.size ∧ g < w1.heap.size ∧ b1 < w1.heap.size ∧ b2 < w1.heap.size ∧ w.heap.size < g ∧ w.heap.size < b1 ∧ w.heap.size < b2 from ⟨HMB.out.lt, HROW.out.lt, HX1.out.lt, HX2.out.lt, by have := HGR.out; omega, by have := HB1.out; omega, by have := HB2.out; omega⟩)
  clear HGR HB1 HB2
  go_upto_region 6 with fail
  replace HMB := hide (HMB.out.alloc (.cells #[.int .i64 1, .int .u32 0, .int .u32 0, .int .u64 0, .string ⟨#[]⟩, .string ⟨#[]⟩, .string ⟨#[]⟩, .string ⟨#[]⟩, .string ⟨#[]⟩, .string ⟨#[]⟩, .string ⟨#[]⟩, .string ⟨#[]⟩, .string ⟨#[]⟩] 27))
  replace HROW := hide (HROW.out.alloc (.cells #[.int .i64 1, .int .u32 0, .int .u32 0, .int .u64 0, .string ⟨#[]⟩, .string ⟨#[]⟩, .string ⟨#[]⟩, .string ⟨#[]⟩, .string ⟨#[]⟩, .string ⟨#[]⟩, .string ⟨#[]⟩, .string ⟨#[]⟩, .string ⟨#[]⟩] 27))
  replace HX1 := hide (HX1.out.alloc (.cells #[.int .i64 1, .int .u32 0, .int .u32 0, .int .u64 0, .string ⟨#[]⟩, .string ⟨#[]⟩, .string ⟨#[]⟩, .string ⟨#[]⟩, .string ⟨#[]⟩, .string ⟨#[]⟩, .string ⟨#[]⟩, .string ⟨#[]⟩, .string ⟨#[]⟩] 27))
  replace HX2 := hide (HX2.out.alloc (.cells #[.int .i64 1, .int .u32 0, .int .u32 0, .int .u64 0, .string ⟨#[]⟩, .string ⟨#[]⟩, .string ⟨#[]⟩, .string ⟨#[]⟩, .string ⟨#[]⟩, .string ⟨#[]⟩, .string ⟨#[]⟩, .string ⟨#[]⟩, .string ⟨#[]⟩] 27))
  replace HO := hide (HO.out.alloc (.cells #[.int .i64 1, .int .u32 0, .int .u32 0, .int .u64 0, .string ⟨#[]⟩, .string ⟨#[]⟩, .string ⟨#[]⟩, .string ⟨#[]⟩, .string ⟨#[]⟩, .string ⟨#[]⟩, .string ⟨#[]⟩, .string ⟨#[]⟩, .string ⟨#[]⟩] 27))
  clear m0
  generalize (w1.alloc (.cells #[.int .i64 1, .int .u32 0, .int .u32 0, .int .u64 0, .string ⟨#[]⟩, .string ⟨#[]⟩, .string ⟨#[]⟩, .string ⟨#[]⟩, .string ⟨#[]⟩, .string ⟨#[]⟩, .string ⟨#[]⟩, .string ⟨#[]⟩, .string ⟨#[]⟩] 27)) = v0 at *
  refine wp_loop_rounds 7 ?_
  rw [rounds_succ]
  have a0 := HROW.out.cell 0; have a1 := HROW.out.cell 1; have a2 := HROW.out.cell 2; have a3 := HROW.out.cell 3
  simp [row1C, numC, txtC] at a0 a1 a2 a3
  go_upto_region 8 with fail
  have HF := hide (Blk.new v0 63 #[.int .i64 4, .func (.func 70) #[] #[.pointer (some ⟨b1, 0, none⟩)], .func (.func 71) #[] #[.pointer (some ⟨b1, 0, none⟩)], .nilFunc])
  have HFL := hide (show w1.heap.size < v0.heap.size from HPB.out.lt)
  replace HMB := hide (HMB.out.alloc (.cells #[.int .i64 4, .func (.func 70) #[] #[.pointer (some ⟨b1, 0, none⟩)], .func (.func 71) #[] #[.pointer (some ⟨b1, 0, none⟩)], .nilFunc] 63))
  replace HROW := hide (HROW.out.alloc (.cells #[.int .i64 4, .func (.func 70) #[] #[.pointer (some ⟨b1, 0, none⟩)], .func (.func 71) #[] #[.pointer (some ⟨b1, 0, none⟩)], .nilFunc] 63))
  replace HX1 := hide (HX1.out.alloc (.cells #[.int .i64 4, .func (.func 70) #[] #[.pointer (some ⟨b1, 0, none⟩)], .func (.func 71) #[] #[.pointer (some ⟨b1, 0, none⟩)], .nilFunc] 63))
  replace HX2 := hide (HX2.out.alloc (.cells #[.int .i64 4, .func (.func 70) #[] #[.pointer (some ⟨b1, 0, none⟩)], .func (.func 71) #[] #[.pointer (some ⟨b1, 0, none⟩)], .nilFunc] 63))
  replace HPB := hide (HPB.out.alloc (.cells #[.int .i64 4, .func (.func 70) #[] #[.pointer (some ⟨b1, 0, none⟩)], .func (.func 71) #[] #[.pointer (some ⟨b1, 0, none⟩)], .nilFunc] 63))
  replace HO := hide (HO.out.alloc (.cells #[.int .i64 4, .func (.func 70) #[] #[.pointer (some ⟨b1, 0, none⟩)], .func (.func 71) #[] #[.pointer (some ⟨b1, 0, none⟩)], .nilFunc] 63))
  generalize (v0.alloc (.cells #[.int .i64 4, .func (.func 70) #[] #[.pointer (some ⟨b1, 0, none⟩)], .func (.func 71) #[] #[.pointer (some ⟨b1, 0, none⟩)], .nilFunc] 63)) = u0 at *
  have f0 := HF.out.cell 0; have f1 := HF.out.cell 1; have f2 := HF.out.cell 2; have f3 := HF.out.cell 3; simp at f0 f1 f2 f3
  have mi := HMB.out.cell 1; have pi_ := HPB.out.cell 1; have pf := HPB.out.frozen 1; simp at mi pi_
  clear a0 a1 a2 a3
  have x0 := HX1.out.cell 0; simp at x0
  have HG := hide ((numget1 w.heap.size b1 s u0.drew x0 mi hs).mono fun e w' h => (⟨h.1, h.2.symm⟩ : _ ∧ w' = u0.drew))
  go_wp2_with fail
  refine wp_region_still_tail 5 (by kernel_rfl) (by kernel_rfl) ?_
  simp only [List.take_succ_cons, List.take_zero, List.drop_succ_cons, List.drop_zero]
  repeat still_step
  still_call HG.out
  repeat still_step
  refine wpStill_nil ?_
  change wpList _ _ _ _ _ u0.drew
  go_wp2_with (go_at_call 71; go_loud (refine (numset1 w1.heap.size b1 s _ (by exact x0) (y := 0) (by exact pi_) (by exact pf) hs).mono ?_; rintro e v1 ⟨rfl, hw⟩; have ho : Only [w1.heap.size] u0 v1 := (by rw [hw]; exact (Only.refl [w1.heap.size] u0).drew.setCell (p := ⟨w1.heap.size, 1, none⟩) (.inl (by simp)) _); replace HPB := hide (show Blk v1 w1.heap.size 27 #[.int .i64 1, .int .u32 (s : Nat), .int .u32 0, .int .u64 0, .string ⟨#[]⟩, .string ⟨#[]⟩, .string ⟨#[]⟩, .string ⟨#[]⟩, .string ⟨#[]⟩, .string ⟨#[]⟩, .string ⟨#[]⟩, .string ⟨#[]⟩, .string ⟨#[]⟩] from (by have h := HPB.out.drew.set_ 1 (.int .u32 (s : Nat)); simp only [List.setIfInBounds_toArray, List.set_cons_zero, List.set_cons_succ] at h; rw [hw]; exact h)); replace HMB := hide (HMB.out.only ho (by have := HD.out; simp; omega)); replace HROW := hide (HROW.out.only ho (by have := HD.out; simp; omega)); replace HX1 := hide (HX1.out.only ho (by have := HD.out; simp; omega)); replace HX2 := hide (HX2.out.only ho (by have := HD.out; simp; omega)); replace HO := hide ((HO.out.mono (S' := [w1.heap.size]) (by simp)).trans ho |>.mono (S' := []) (by have := HD.out; simp; omega)); clear ho hw))
  clear f0 f1 f2 f3 mi pi_ pf HG HF HFL x0
  rw [rounds_succ]
  have a0 := HROW.out.cell 4; have a1 := HROW.out.cell 5; have a2 := HROW.out.cell 6; have a3 := HROW.out.cell 7
  simp [row1C, numC, txtC] at a0 a1 a2 a3
  go_upto_region 8 with fail
  have HF := hide (Blk.new v1 63 #[.int .i64 0, .nilFunc, .nilFunc, .func (.func 49) #[] #[]])
  have HFL := hide (show w1.heap.size < v1.heap.size from HPB.out.lt)
  replace HMB := hide (HMB.out.alloc (.cells #[.int .i64 0, .nilFunc, .nilFunc, .func (.func 49) #[] #[]] 63))
  replace HROW := hide (HROW.out.alloc (.cells #[.int .i64 0, .nilFunc, .nilFunc, .func (.func 49) #[] #[]] 63))
  replace HX1 := hide (HX1.out.alloc (.cells #[.int .i64 0, .nilFunc, .nilFunc, .func (.func 49) #[] #[]] 63))
  replace HX2 := hide (HX2.out.alloc (.cells #[.int .i64 0, .nilFunc, .nilFunc, .func (.func 49) #[] #[]] 63))
  replace HPB := hide (HPB.out.alloc (.cells #[.int .i64 0, .nilFunc, .nilFunc, .func (.func 49) #[] #[]] 63))
  replace HO := hide (HO.out.alloc (.cells #[.int .i64 0, .nilFunc, .nilFunc, .func (.func 49) #[] #[]] 63))
  generalize (v1.alloc (.cells #[.int .i64 0, .nilFunc, .nilFunc, .func (.func 49) #[] #[]] 63)) = u1 at *
  have f0 := HF.out.cell 0; have f1 := HF.out.cell 1; have f2 := HF.out.cell 2; have f3 := HF.out.cell 3; simp at f0 f1 f2 f3
  have mi := HMB.out.cell 4; have pi_ := HPB.out.cell 4; have pf := HPB.out.frozen 4; simp at mi pi_
  clear a0 a1 a2 a3
  have HFT := hide (fun W => fit_any W x4 hx4)
  unfold RetB at HFT
  cases hf4 : fitW x4
  case false =>
    rw [hf4] at HFT
    have HV := hide (show rightM (Mg.mk 1 s r c x4 x5 x6 x7 x8 x9 x10 x11 x12) = false by simp [rightM, textsM, hf4])
    clear hf4
    go_wp2_with (first | (go_at_call 49; refine (place4 _ _).mono ?_; rintro e w4 ⟨rfl, rfl⟩) | (go_at_call 61; refine (HFT.out _).mono ?_; rintro e w3 ⟨rfl, ho⟩; replace HO := hide (HO.out.trans ho); clear ho))
    go_ret2
    exact prop_no HV.out HO.out
  rw [hf4] at HFT
  have HB4 := hide hf4
  clear hf4
  go_wp2_with (first | (go_at_call 49; refine (place4 _ _).mono ?_; rintro e w4 ⟨rfl, rfl⟩) | (go_at_call 61; refine (HFT.out _).mono ?_; rintro e w3 ⟨rfl, ho⟩; replace HMB := hide (HMB.out.only ho (by simp)); replace HROW := hide (HROW.out.only ho (by simp)); replace HX1 := hide (HX1.out.only ho (by simp)); replace HX2 := hide (HX2.out.only ho (by simp)); replace HPB := hide (HPB.out.only ho (by simp)); replace HF := hide (HF.out.only ho (by simp)); replace HO := hide (HO.out.trans ho); clear ho f0 f1 f2 f3 pi_ pf; have f3 := HF.out.cell 3; have pi_ := HPB.out.cell 4; have pf := HPB.out.frozen 4; simp at f3 pi_))
  have ho := (Only.refl [w1.heap.size] w3).setCell (p := ⟨w1.heap.size, 4, none⟩) (.inl (by simp)) (.string x4)
  replace HPB := hide (show Blk (w3.setCell ⟨w1.heap.size, 4, none⟩ (.string x4)) w1.heap.size 27 #[.int .i64 1, .int .u32 (s : Nat), .int .u32 0, .int .u64 0, .string x4, .string ⟨#[]⟩, .string ⟨#[]⟩, .string ⟨#[]⟩, .string ⟨#[]⟩, .string ⟨#[]⟩, .string ⟨#[]⟩, .string ⟨#[]⟩, .string ⟨#[]⟩] from (by have h := HPB.out.set_ 4 (.string x4); simp only [List.setIfInBounds_toArray, List.set_cons_zero, List.set_cons_succ] at h; exact h))
  replace HMB := hide (HMB.out.only ho (by have := HD.out; simp; omega))
  replace HROW := hide (HROW.out.only ho (by have := HD.out; simp; omega))
  replace HX1 := hide (HX1.out.only ho (by have := HD.out; simp; omega))
  replace HX2 := hide (HX2.out.only ho (by have := HD.out; simp; omega))
  replace HO := hide ((HO.out.mono (S' := [w1.heap.size]) (by simp)).trans ho |>.mono (S' := []) (by have := HD.out; simp; omega))
  generalize (w3.setCell ⟨w1.heap.size, 4, none⟩ (.string x4)) = v2 at *
  clear f3 mi pi_ pf HFT HF HFL ho
  rw [rounds_succ]
  have a0 := HROW.out.cell 8; have a1 := HROW.out.cell 9; have a2 := HROW.out.cell 10; have a3 := HROW.out.cell 11
  simp [row1C, numC, txtC] at a0 a1 a2 a3
  go_upto_region 8 with fail
  have HF := hide (Blk.new v2 63 #[.int .i64 0, .nilFunc, .nilFunc, .func (.func 52) #[] #[]])
  have HFL := hide (show w1.heap.size < v2.heap.size from HPB.out.lt)
  replace HMB := hide (HMB.out.alloc (.cells #[.int .i64 0, .nilFunc, .nilFunc, .func (.func 52) #[] #[]] 63))
  replace HROW := hide (HROW.out.alloc (.cells #[.int .i64 0, .nilFunc, .nilFunc, .func (.func 52) #[] #[]] 63))
  replace HX1 := hide (HX1.out.alloc (.cells #[.int .i64 0, .nilFunc, .nilFunc, .func (.func 52) #[] #[]] 63))
  replace HX2 := hide (HX2.out.alloc (.cells #[.int .i64 0, .nilFunc, .nilFunc, .func (.func 52) #[] #[]] 63))
  replace HPB := hide (HPB.out.alloc (.cells #[.int .i64 0, .nilFunc, .nilFunc, .func (.func 52) #[] #[]] 63))
  replace HO := hide (HO.out.alloc (.cells #[.int .i64 0, .nilFunc, .nilFunc, .func (.func 52) #[] #[]] 63))
  generalize (v2.alloc (.cells #[.int .i64 0, .nilFunc, .nilFunc, .func (.func 52) #[] #[]] 63)) = u2 at *
  have f0 := HF.out.cell 0; have f1 := HF.out.cell 1; have f2 := HF.out.cell 2; have f3 := HF.out.cell 3; simp at f0 f1 f2 f3
  have mi := HMB.out.cell 5; have pi_ := HPB.out.cell 5; have pf := HPB.out.frozen 5; simp at mi pi_
  clear a0 a1 a2 a3
  have HFT := hide (fun W => fit_any W x5 hx5)
  unfold RetB at HFT
  cases hf5 : fitW x5
  case false =>
    rw [hf5] at HFT
    have HV := hide (show rightM (Mg.mk 1 s r c x4 x5 x6 x7 x8 x9 x10 x11 x12) = false by simp [rightM, textsM, hf5])
    clear hf5
    go_wp2_with (first | (go_at_call 52; refine (place5 _ _).mono ?_; rintro e w4 ⟨rfl, rfl⟩) | (go_at_call 61; refine (HFT.out _).mono ?_; rintro e w3 ⟨rfl, ho⟩; replace HO := hide (HO.out.trans ho); clear ho))
    go_ret2
    exact prop_no HV.out HO.out
  rw [hf5] at HFT
  have HB5 := hide hf5
  clear hf5
  go_wp2_with (first | (go_at_call 52; refine (place5 _ _).mono ?_; rintro e w4 ⟨rfl, rfl⟩) | (go_at_call 61; refine (HFT.out _).mono ?_; rintro e w3 ⟨rfl, ho⟩; replace HMB := hide (HMB.out.only ho (by simp)); replace HROW := hide (HROW.out.only ho (by simp)); replace HX1 := hide (HX1.out.only ho (by simp)); replace HX2 := hide (HX2.out.only ho (by simp)); replace HPB := hide (HPB.out.only ho (by simp)); replace HF := hide (HF.out.only ho (by simp)); replace HO := hide (HO.out.trans ho); clear ho f0 f1 f2 f3 pi_ pf; have f3 := HF.out.cell 3; have pi_ := HPB.out.cell 5; have pf := HPB.out.frozen 5; simp at f3 pi_))
  have ho := (Only.refl [w1.heap.size] w3).setCell (p := ⟨w1.heap.size, 5, none⟩) (.inl (by simp)) (.string x5)
  replace HPB := hide (show Blk (w3.setCell ⟨w1.heap.size, 5, none⟩ (.string x5)) w1.heap.size 27 #[.int .i64 1, .int .u32 (s : Nat), .int .u32 0, .int .u64 0, .string x4, .string x5, .string ⟨#[]⟩, .string ⟨#[]⟩, .string ⟨#[]⟩, .string ⟨#[]⟩, .string ⟨#[]⟩, .string ⟨#[]⟩, .string ⟨#[]⟩] from (by have h := HPB.out.set_ 5 (.string x5); simp only [List.setIfInBounds_toArray, List.set_cons_zero, List.set_cons_succ] at h; exact h))
  replace HMB := hide (HMB.out.only ho (by have := HD.out; simp; omega))
  replace HROW := hide (HROW.out.only ho (by have := HD.out; simp; omega))
  replace HX1 := hide (HX1.out.only ho (by have := HD.out; simp; omega))
  replace HX2 := hide (HX2.out.only ho (by have := HD.out; simp; omega))
  replace HO := hide ((HO.out.mono (S' := [w1.heap.size]) (by simp)).trans ho |>.mono (S' := []) (by have := HD.out; simp; omega))
  generalize (w3.setCell ⟨w1.heap.size, 5, none⟩ (.string x5)) = v3 at *
  clear f3 mi pi_ pf HFT HF HFL ho
  rw [rounds_succ]
  have a0 := HROW.out.cell 12; have a1 := HROW.out.cell 13; have a2 := HROW.out.cell 14; have a3 := HROW.out.cell 15
  simp [row1C, numC, txtC] at a0 a1 a2 a3
  go_upto_region 8 with fail
  have HF := hide (Blk.new v3 63 #[.int .i64 0, .nilFunc, .nilFunc, .func (.func 53) #[] #[]])
  have HFL := hide (show w1.heap.size < v3.heap.size from HPB.out.lt)
  replace HMB := hide (HMB.out.alloc (.cells #[.int .i64 0, .nilFunc, .nilFunc, .func (.func 53) #[] #[]] 63))
  replace HROW := hide (HROW.out.alloc (.cells #[.int .i64 0, .nilFunc, .nilFunc, .func (.func 53) #[] #[]] 63))
  replace HX1 := hide (HX1.out.alloc (.cells #[.int .i64 0, .nilFunc, .nilFunc, .func (.func 53) #[] #[]] 63))
  replace HX2 := hide (HX2.out.alloc (.cells #[.int .i64 0, .nilFunc, .nilFunc, .func (.func 53) #[] #[]] 63))
  replace HPB := hide (HPB.out.alloc (.cells #[.int .i64 0, .nilFunc, .nilFunc, .func (.func 53) #[] #[]] 63))
  replace HO := hide (HO.out.alloc (.cells #[.int .i64 0, .nilFunc, .nilFunc, .func (.func 53) #[] #[]] 63))
  generalize (v3.alloc (.cells #[.int .i64 0, .nilFunc, .nilFunc, .func (.func 53) #[] #[]] 63)) = u3 at *
  have f0 := HF.out.cell 0; have f1 := HF.out.cell 1; have f2 := HF.out.cell 2; have f3 := HF.out.cell 3; simp at f0 f1 f2 f3
  have mi := HMB.out.cell 6; have pi_ := HPB.out.cell 6; have pf := HPB.out.frozen 6; simp at mi pi_
  clear a0 a1 a2 a3
  have HFT := hide (fun W => fit_any W x6 hx6)
  unfold RetB at HFT
  cases hf6 : fitW x6
  case false =>
    rw [hf6] at HFT
    have HV := hide (show rightM (Mg.mk 1 s r c x4 x5 x6 x7 x8 x9 x10 x11 x12) = false by simp [rightM, textsM, hf6])
    clear hf6
    go_wp2_with (first | (go_at_call 53; refine (place6 _ _).mono ?_; rintro e w4 ⟨rfl, rfl⟩) | (go_at_call 61; refine (HFT.out _).mono ?_; rintro e w3 ⟨rfl, ho⟩; replace HO := hide (HO.out.trans ho); clear ho))
    go_ret2
    exact prop_no HV.out HO.out
  rw [hf6] at HFT
  have HB6 := hide hf6
  clear hf6
  go_wp2_with (first | (go_at_call 53; refine (place6 _ _).mono ?_; rintro e w4 ⟨rfl, rfl⟩) | (go_at_call 61; refine (HFT.out _).mono ?_; rintro e w3 ⟨rfl, ho⟩; replace HMB := hide (HMB.out.only ho (by simp)); replace HROW := hide (HROW.out.only ho (by simp)); replace HX1 := hide (HX1.out.only ho (by simp)); replace HX2 := hide (HX2.out.only ho (by simp)); replace HPB := hide (HPB.out.only ho (by simp)); replace HF := hide (HF.out.only ho (by simp)); replace HO := hide (HO.out.trans ho); clear ho f0 f1 f2 f3 pi_ pf; have f3 := HF.out.cell 3; have pi_ := HPB.out.cell 6; have pf := HPB.out.frozen 6; simp at f3 pi_))
  have ho := (Only.refl [w1.heap.size] w3).setCell (p := ⟨w1.heap.size, 6, none⟩) (.inl (by simp)) (.string x6)
  replace HPB := hide (show Blk (w3.setCell ⟨w1.heap.size, 6, none⟩ (.string x6)) w1.heap.size 27 #[.int .i64 1, .int .u32 (s : Nat), .int .u32 0, .int .u64 0, .string x4, .string x5, .string x6, .string ⟨#[]⟩, .string ⟨#[]⟩, .string ⟨#[]⟩, .string ⟨#[]⟩, .string ⟨#[]⟩, .string ⟨#[]⟩] from (by have h := HPB.out.set_ 6 (.string x6); simp only [List.setIfInBounds_toArray, List.set_cons_zero, List.set_cons_succ] at h; exact h))
  replace HMB := hide (HMB.out.only ho (by have := HD.out; simp; omega))
  replace HROW := hide (HROW.out.only ho (by have := HD.out; simp; omega))
  replace HX1 := hide (HX1.out.only ho (by have := HD.out; simp; omega))
  replace HX2 := hide (HX2.out.only ho (by have := HD.out; simp; omega))
  replace HO := hide ((HO.out.mono (S' := [w1.heap.size]) (by simp)).trans ho |>.mono (S' := []) (by have := HD.out; simp; omega))
  generalize (w3.setCell ⟨w1.heap.size, 6, none⟩ (.string x6)) = v4 at *
  clear f3 mi pi_ pf HFT HF HFL ho
  rw [rounds_succ]
  have a0 := HROW.out.cell 16; have a1 := HROW.out.cell 17; have a2 := HROW.out.cell 18; have a3 := HROW.out.cell 19
  simp [row1C, numC, txtC] at a0 a1 a2 a3
  go_upto_region 8 with fail
  have HF := hide (Blk.new v4 63 #[.int .i64 0, .nilFunc, .nilFunc, .func (.func 50) #[] #[]])
  have HFL := hide (show w1.heap.size < v4.heap.size from HPB.out.lt)
  replace HMB := hide (HMB.out.alloc (.cells #[.int .i64 0, .nilFunc, .nilFunc, .func (.func 50) #[] #[]] 63))
  replace HROW := hide (HROW.out.alloc (.cells #[.int .i64 0, .nilFunc, .nilFunc, .func (.func 50) #[] #[]] 63))
  replace HX1 := hide (HX1.out.alloc (.cells #[.int .i64 0, .nilFunc, .nilFunc, .func (.func 50) #[] #[]] 63))
  replace HX2 := hide (HX2.out.alloc (.cells #[.int .i64 0, .nilFunc, .nilFunc, .func (.func 50) #[] #[]] 63))
  replace HPB := hide (HPB.out.alloc (.cells #[.int .i64 0, .nilFunc, .nilFunc, .func (.func 50) #[] #[]] 63))
  replace HO := hide (HO.out.alloc (.cells #[.int .i64 0, .nilFunc, .nilFunc, .func (.func 50) #[] #[]] 63))
  generalize (v4.alloc (.cells #[.int .i64 0, .nilFunc, .nilFunc, .func (.func 50) #[] #[]] 63)) = u4 at *
  have f0 := HF.out.cell 0; have f1 := HF.out.cell 1; have f2 := HF.out.cell 2; have f3 := HF.out.cell 3; simp at f0 f1 f2 f3
  have mi := HMB.out.cell 11; have pi_ := HPB.out.cell 11; have pf := HPB.out.frozen 11; simp at mi pi_
  clear a0 a1 a2 a3
  have HFT := hide (fun W => fit_any W x11 hx11)
  unfold RetB at HFT
  cases hf11 : fitW x11
  case false =>
    rw [hf11] at HFT
    have HV := hide (show rightM (Mg.mk 1 s r c x4 x5 x6 x7 x8 x9 x10 x11 x12) = false by simp [rightM, textsM, hf11])
    clear hf11
    go_wp2_with (first | (go_at_call 50; refine (place11 _ _).mono ?_; rintro e w4 ⟨rfl, rfl⟩) | (go_at_call 61; refine (HFT.out _).mono ?_; rintro e w3 ⟨rfl, ho⟩; replace HO := hide (HO.out.trans ho); clear ho))
    go_ret2
    exact prop_no HV.out HO.out
  rw [hf11] at HFT
  have HB11 := hide hf11
  clear hf11
  go_wp2_with (first | (go_at_call 50; refine (place11 _ _).mono ?_; rintro e w4 ⟨rfl, rfl⟩) | (go_at_call 61; refine (HFT.out _).mono ?_; rintro e w3 ⟨rfl, ho⟩; replace HMB := hide (HMB.out.only ho (by simp)); replace HROW := hide (HROW.out.only ho (by simp)); replace HX1 := hide (HX1.out.only ho (by simp)); replace HX2 := hide (HX2.out.only ho (by simp)); replace HPB := hide (HPB.out.only ho (by simp)); replace HF := hide (HF.out.only ho (by simp)); replace HO := hide (HO.out.trans ho); clear ho f0 f1 f2 f3 pi_ pf; have f3 := HF.out.cell 3; have pi_ := HPB.out.cell 11; have pf := HPB.out.frozen 11; simp at f3 pi_))
  have ho := (Only.refl [w1.heap.size] w3).setCell (p := ⟨w1.heap.size, 11, none⟩) (.inl (by simp)) (.string x11)
  replace HPB := hide (show Blk (w3.setCell ⟨w1.heap.size, 11, none⟩ (.string x11)) w1.heap.size 27 #[.int .i64 1, .int .u32 (s : Nat), .int .u32 0, .int .u64 0, .string x4, .string x5, .string x6, .string ⟨#[]⟩, .string ⟨#[]⟩, .string ⟨#[]⟩, .string ⟨#[]⟩, .string x11, .string ⟨#[]⟩] from (by have h := HPB.out.set_ 11 (.string x11); simp only [List.setIfInBounds_toArray, List.set_cons_zero, List.set_cons_succ] at h; exact h))
  replace HMB := hide (HMB.out.only ho (by have := HD.out; simp; omega))
  replace HROW := hide (HROW.out.only ho (by have := HD.out; simp; omega))
  replace HX1 := hide (HX1.out.only ho (by have := HD.out; simp; omega))
  replace HX2 := hide (HX2.out.only ho (by have := HD.out; simp; omega))
  replace HO := hide ((HO.out.mono (S' := [w1.heap.size]) (by simp)).trans ho |>.mono (S' := []) (by have := HD.out; simp; omega))
  generalize (w3.setCell ⟨w1.heap.size, 11, none⟩ (.string x11)) = v5 at *
  clear f3 mi pi_ pf HFT HF HFL ho
  rw [rounds_succ]
  have a0 := HROW.out.cell 20; have a1 := HROW.out.cell 21; have a2 := HROW.out.cell 22; have a3 := HROW.out.cell 23
  simp [row1C, numC, txtC] at a0 a1 a2 a3
  go_upto_region 8 with fail
  have HF := hide (Blk.new v5 63 #[.int .i64 0, .nilFunc, .nilFunc, .func (.func 51) #[] #[]])
  have HFL := hide (show w1.heap.size < v5.heap.size from HPB.out.lt)
  replace HMB := hide (HMB.out.alloc (.cells #[.int .i64 0, .nilFunc, .nilFunc, .func (.func 51) #[] #[]] 63))
  replace HROW := hide (HROW.out.alloc (.cells #[.int .i64 0, .nilFunc, .nilFunc, .func (.func 51) #[] #[]] 63))
  replace HX1 := hide (HX1.out.alloc (.cells #[.int .i64 0, .nilFunc, .nilFunc, .func (.func 51) #[] #[]] 63))
  replace HX2 := hide (HX2.out.alloc (.cells #[.int .i64 0, .nilFunc, .nilFunc, .func (.func 51) #[] #[]] 63))
  replace HPB := hide (HPB.out.alloc (.cells #[.int .i64 0, .nilFunc, .nilFunc, .func (.func 51) #[] #[]] 63))
  replace HO := hide (HO.out.alloc (.cells #[.int .i64 0, .nilFunc, .nilFunc, .func (.func 51) #[] #[]] 63))
  generalize (v5.alloc (.cells #[.int .i64 0, .nilFunc, .nilFunc, .func (.func 51) #[] #[]] 63)) = u5 at *
  have f0 := HF.out.cell 0; have f1 := HF.out.cell 1; have f2 := HF.out.cell 2; have f3 := HF.out.cell 3; simp at f0 f1 f2 f3
  have mi := HMB.out.cell 12; have pi_ := HPB.out.cell 12; have pf := HPB.out.frozen 12; simp at mi pi_
  clear a0 a1 a2 a3
  have HFT := hide (fun W => fit_any W x12 hx12)
  unfold RetB at HFT
  cases hf12 : fitW x12
  case false =>
    rw [hf12] at HFT
    have HV := hide (show rightM (Mg.mk 1 s r c x4 x5 x6 x7 x8 x9 x10 x11 x12) = false by simp [rightM, textsM, hf12])
    clear hf12
    go_wp2_with (first | (go_at_call 51; refine (place12 _ _).mono ?_; rintro e w4 ⟨rfl, rfl⟩) | (go_at_call 61; refine (HFT.out _).mono ?_; rintro e w3 ⟨rfl, ho⟩; replace HO := hide (HO.out.trans ho); clear ho))
    go_ret2
    exact prop_no HV.out HO.out
  rw [hf12] at HFT
  have HB12 := hide hf12
  clear hf12
  go_wp2_with (first | (go_at_call 51; refine (place12 _ _).mono ?_; rintro e w4 ⟨rfl, rfl⟩) | (go_at_call 61; refine (HFT.out _).mono ?_; rintro e w3 ⟨rfl, ho⟩; replace HMB := hide (HMB.out.only ho (by simp)); replace HROW := hide (HROW.out.only ho (by simp)); replace HX1 := hide (HX1.out.only ho (by simp)); replace HX2 := hide (HX2.out.only ho (by simp)); replace HPB := hide (HPB.out.only ho (by simp)); replace HF := hide (HF.out.only ho (by simp)); replace HO := hide (HO.out.trans ho); clear ho f0 f1 f2 f3 pi_ pf; have f3 := HF.out.cell 3; have pi_ := HPB.out.cell 12; have pf := HPB.out.frozen 12; simp at f3 pi_))
  have ho := (Only.refl [w1.heap.size] w3).setCell (p := ⟨w1.heap.size, 12, none⟩) (.inl (by simp)) (.string x12)
  replace HPB := hide (show Blk (w3.setCell ⟨w1.heap.size, 12, none⟩ (.string x12)) w1.heap.size 27 #[.int .i64 1, .int .u32 (s : Nat), .int .u32 0, .int .u64 0, .string x4, .string x5, .string x6, .string ⟨#[]⟩, .string ⟨#[]⟩, .string ⟨#[]⟩, .string ⟨#[]⟩, .string x11, .string x12] from (by have h := HPB.out.set_ 12 (.string x12); simp only [List.setIfInBounds_toArray, List.set_cons_zero, List.set_cons_succ] at h; exact h))
  replace HMB := hide (HMB.out.only ho (by have := HD.out; simp; omega))
  replace HROW := hide (HROW.out.only ho (by have := HD.out; simp; omega))
  replace HX1 := hide (HX1.out.only ho (by have := HD.out; simp; omega))
  replace HX2 := hide (HX2.out.only ho (by have := HD.out; simp; omega))
  replace HO := hide ((HO.out.mono (S' := [w1.heap.size]) (by simp)).trans ho |>.mono (S' := []) (by have := HD.out; simp; omega))
  generalize (w3.setCell ⟨w1.heap.size, 12, none⟩ (.string x12)) = v6 at *
  clear f3 mi pi_ pf HFT HF HFL ho
  rw [rounds_succ]
  have heq : ∀ W : World, (binOp .eql 27 (.agg #[.int .i64 1, .int .u32 (s : Nat), .int .u32 0, .int .u64 0, .string x4, .string x5, .string x6, .string ⟨#[]⟩, .string ⟨#[]⟩, .string ⟨#[]⟩, .string ⟨#[]⟩, .string x11, .string x12]) (.agg #[.int .i64 1, .int .u32 (s : Nat), .int .u32 (r : Nat), .int .u64 (c : Nat), .string x4, .string x5, .string x6, .string x7, .string x8, .string x9, .string x10, .string x11, .string x12])).run Try.prog W = .ok (.bool (eqM (onlyM (Mg.mk 1 s r c x4 x5 x6 x7 x8 x9 x10 x11 x12)) (Mg.mk 1 s r c x4 x5 x6 x7 x8 x9 x10 x11 x12))) W := fun W => msg_eql (onlyM (Mg.mk 1 s r c x4 x5 x6 x7 x8 x9 x10 x11 x12)) (Mg.mk 1 s r c x4 x5 x6 x7 x8 x9 x10 x11 x12) W
  have HV := hide (show rightM (Mg.mk 1 s r c x4 x5 x6 x7 x8 x9 x10 x11 x12) = eqM (onlyM (Mg.mk 1 s r c x4 x5 x6 x7 x8 x9 x10 x11 x12)) (Mg.mk 1 s r c x4 x5 x6 x7 x8 x9 x10 x11 x12) by simp [rightM, textsM, HB4.out, HB5.out, HB6.out, HB11.out, HB12.out])
  generalize eqM (onlyM (Mg.mk 1 s r c x4 x5 x6 x7 x8 x9 x10 x11 x12)) (Mg.mk 1 s r c x4 x5 x6 x7 x8 x9 x10 x11 x12) = B at *
  have m0 := HMB.out.cell 0; have m1 := HMB.out.cell 1; have m2 := HMB.out.cell 2; have m3 := HMB.out.cell 3; have m4 := HMB.out.cell 4; have m5 := HMB.out.cell 5; have m6 := HMB.out.cell 6; have m7 := HMB.out.cell 7; have m8 := HMB.out.cell 8; have m9 := HMB.out.cell 9; have m10 := HMB.out.cell 10; have m11 := HMB.out.cell 11; have m12 := HMB.out.cell 12; simp at m0 m1 m2 m3 m4 m5 m6 m7 m8 m9 m10 m11 m12
  have p0 := HPB.out.cell 0; have p1 := HPB.out.cell 1; have p2 := HPB.out.cell 2; have p3 := HPB.out.cell 3; have p4 := HPB.out.cell 4; have p5 := HPB.out.cell 5; have p6 := HPB.out.cell 6; have p7 := HPB.out.cell 7; have p8 := HPB.out.cell 8; have p9 := HPB.out.cell 9; have p10 := HPB.out.cell 10; have p11 := HPB.out.cell 11; have p12 := HPB.out.cell 12; simp at p0 p1 p2 p3 p4 p5 p6 p7 p8 p9 p10 p11 p12
  go_wp2_with fail
  refine wp_region_still_lit (by kernel_rfl) (by kernel_rfl) ?_
  repeat still_step
  refine wpStill_nil ?_
  go_wp2_with fail
  go_ret2
  exact prop_is (b1 := b1) (b2 := b2) HV.out (by have := HD.out; omega) (by have := HD.out; omega) (by have := HD.out; omega) HROW.out.drew HX1.out.drew HX2.out.drew HO.out.drew
end
end Go.Proofs.Ytfmfnfmhknlpbaa

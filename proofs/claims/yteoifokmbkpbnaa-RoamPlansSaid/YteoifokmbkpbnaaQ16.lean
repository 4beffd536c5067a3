/-
  Walks and plain words (texts Ro15). No condition beyond those that each theorem states.
-/
import Derived.Deep.RegionHeld3
import Derived.Test.YteoifokmbkpbnaaQ13
namespace Go.Proofs.Yteoifokmbkpbnaa
section
open Go.RowKit Go.Deep

set_option maxRecDepth 100000 in
set_option maxHeartbeats 12800000 in
theorem rp_u3_h3 (w : World) (mv rv : Value) (m : List (Int × Int)) (rs : List Rt) (UN : Nat) (hostN : Nat) (sec : Int) (hm : RdS 2 ptc w [] mv m) (hmf : ∀ p ∈ m, Fit p) (hr : RdR w [] rv rs) (hf : ∀ r ∈ rs, FitR r) (hhv : heavyV m rs = false) (hj : jrV m rs = true) (hU : UN ≤ 60) (hh : hostN < rs.length) (hT : sec < 0) :
    Calls Try.prog 4 #[.agg #[mv, rv], .int .i64 (UN : Nat), .int .i64 (hostN : Nat), .int .i64 sec] w fun e w' => e = .returned (.bool true) ∧ Only [] w w' := by
  have HAW := hide (fun W => awake22 W)
  have HHV := hide (fun W (h : Only [] w W) => heavy_any W mv rv m rs (hm.only h (by simp)) (hr.only h (by simp)))
  rw [hhv] at HHV
  obtain ⟨hml, hrl, hll⟩ := heavy_no hhv
  have HAS := hide (fun W (h : Only [] w W) => as_any W [] [] mv rv m rs (hm.only h (by simp)) hml (hr.only h (by simp)) hrl hll)
  have HRF := hide (fun w5 v1 v2 rs' h1 h2 h3 => refs_of (w5 := w5) (v1 := v1) (v2 := v2) (m := m) (rs := rs) (rs' := rs') h1 h2 h3 hml hrl hll hf)
  have HJR := hide (fun W (h : Only [] w W) => journey_right W [] [] mv rv m rs (hm.only h (by simp)) hml hmf (hr.only h (by simp)) hrl hll hf)
  rw [hj] at HJR
  have HJT := hide hj
  have HN8 := hide (show rs.length ≤ 8 from by unfold jrV at hj; rw [Bool.and_eq_true, Bool.and_eq_true] at hj; exact (of_decide_eq_true hj.2.1).2)
  obtain ⟨Am0, cm0, hmv0, _, _⟩ := hm.form
  obtain ⟨A0, cap0, hrv0, _, _⟩ := hr.1.form
  have HUN := hide hU
  have HPL := hide (fun W (h : Only [] w W) => plan_ok W [] [] mv rv m rs UN (hm.only h (by simp)) hml hmf (hr.only h (by simp)) hrl hll hf hj (by omega))
  have HLB := hide (show (planK m rs (UN + 1)).length ≤ 100000 from Nat.le_trans (plan_len m rs HN8.out (UN + 1)) (by omega))
  have HMO := hide (fun W (h : Only [] w W) => moves_ok W mv rv _ _ _ _ _ _ hmv0 hrv0 UN (planK m rs (UN + 1)) HLB.out (fun W' h' => HPL.out W' (h.trans h')))
  generalize hL : planK m rs (UN + 1) = L at *
  have HLL := hide hL
  clear hL
  obtain ⟨q, hq⟩ : ∃ q, q = L.length := ⟨_, rfl⟩
  have HLQ := hide hq
  have hqb : q ≤ 100000 := by rw [hq]; exact HLB.out
  obtain ⟨cn, hcn⟩ : ∃ c, c = cntM L := ⟨_, rfl⟩
  have HCN := hide hcn
  have hcb : cn ≤ 100000 := by rw [hcn]; exact Nat.le_trans (cnt_le L) HLB.out
  rw [← hcn] at HMO
  clear hq hcn
  have HAT := hide (fun W (h : Only [] w W) => jat_arg W [] [] mv rv m rs hostN sec (hm.only h (by simp)) hml hmf (hr.only h (by simp)) hrl hll hf hj hh hT)
  rw [hj] at HRF
  clear hj hll hmv0 hrv0 
  obtain ⟨Am, cm, rfl, hcm0, hcm1⟩ := hm.form
  obtain ⟨A, cap, rfl, hcap, hmx⟩ := hr.1.form
  unfold maxLen at hmx hcm1
  generalize hnm : m.length = nm at *
  generalize hn : rs.length = n at *
  have HNM := hide hnm.symm
  have HN := hide hn.symm
  have HB := hide (Blk.new w 49 #[.slice Am nm cm, .slice A n cap])
  have HO := hide ((Only.refl [] w).alloc (.cells #[.slice Am nm cm, .slice A n cap] 49))
  clear hm hmf hr hf hhv hnm hn
  have hUi : ¬ (60 : Int) < UN := by omega
  have hUj : ¬ (UN : Int) < 0 := by omega
  have hUk : ¬ (1000 : Int) < UN := by omega
  have hhI : ¬ (hostN : Int) < 0 := by omega
  have hhJ : ¬ (n : Int) ≤ hostN := by omega
  go_enter Try.func4, Try.ntmps4
  have hqq : ((q : Int) != (q : Int)) = false := by simp
  go_wp2_with (first
    | (go_at_call 18; refine (HAW.out _).mono ?_; rintro e w0 ⟨rfl, rfl⟩)
    | (go_at_call 19; refine (HHV.out _ HO.out).mono ?_; rintro e w1 ⟨rfl, ho⟩; replace HO := hide (HO.out.trans ho); replace HB := hide (HB.out.only ho (by simp)); (try clear k0 k1); have k0 := HB.out.cell 0; have k1 := HB.out.cell 1; simp at k0 k1; (try (replace HX := hide (HX.out.trans ho))); (try (replace HPV := hide (HPV.out.only ho (by simp)))); clear ho)
    | (go_at_call 20; refine (HAS.out _ HO.out).mono ?_; rintro e w2 ⟨v1, v2, rs2, rfl, hms, hrs, hk, ho⟩; have HREF := hide (HRF.out w2 v1 v2 rs2 hms hrs hk); obtain ⟨A1, c1, rfl⟩ := HREF.out.2.2.2.1; obtain ⟨A2, c2, rfl⟩ := HREF.out.2.2.2.2; replace HO := hide (HO.out.trans ho); replace HB := hide (HB.out.only ho (by simp)); (try clear k0 k1); have k0 := HB.out.cell 0; have k1 := HB.out.cell 1; simp at k0 k1; (try (replace HX := hide (HX.out.trans ho))); (try (replace HPV := hide (HPV.out.only ho (by simp)))); clear ho; have HX := hide (Only.refl [] w2); clear hms hrs hk)
    | (go_at_call 21; refine (HREF.out.1 _ HX.out).mono ?_; rintro e w3 ⟨rfl, ho⟩; replace HO := hide (HO.out.trans ho); replace HB := hide (HB.out.only ho (by simp)); (try clear k0 k1); have k0 := HB.out.cell 0; have k1 := HB.out.cell 1; simp at k0 k1; (try (replace HX := hide (HX.out.trans ho))); (try (replace HPV := hide (HPV.out.only ho (by simp)))); clear ho)
    | (go_at_call 22; refine (HPL.out _ HO.out).mono ?_; rintro e w4 ⟨v4, rfl, hrd, ho⟩; obtain ⟨Ap, cp, rfl, _, _⟩ := hrd.form; rw [← HLQ.out] at hrd ⊢; replace HO := hide (HO.out.trans ho); replace HB := hide (HB.out.only ho (by simp)); (try clear k0 k1); have k0 := HB.out.cell 0; have k1 := HB.out.cell 1; simp at k0 k1; (try (replace HX := hide (HX.out.trans ho))); (try (replace HPV := hide (HPV.out.only ho (by simp)))); clear ho; have HPV := hide hrd; clear hrd)
    | (go_at_call 23; refine (HMO.out _ HO.out).mono ?_; rintro e w5 ⟨rfl, ho⟩; replace HO := hide (HO.out.trans ho); replace HB := hide (HB.out.only ho (by simp)); (try clear k0 k1); have k0 := HB.out.cell 0; have k1 := HB.out.cell 1; simp at k0 k1; (try (replace HX := hide (HX.out.trans ho))); (try (replace HPV := hide (HPV.out.only ho (by simp)))); clear ho)
    | (go_at_call 24; refine (HAT.out _ HO.out).mono ?_; rintro e w6 ⟨rfl, ho⟩; replace HO := hide (HO.out.trans ho); replace HB := hide (HB.out.only ho (by simp)); (try clear k0 k1); have k0 := HB.out.cell 0; have k1 := HB.out.cell 1; simp at k0 k1; (try (replace HX := hide (HX.out.trans ho))); (try (replace HPV := hide (HPV.out.only ho (by simp)))); clear ho)
    | (go_at_call 25; refine (HJR.out _ HO.out).mono ?_; rintro e w7 ⟨rfl, ho⟩; replace HO := hide (HO.out.trans ho); replace HB := hide (HB.out.only ho (by simp)); (try clear k0 k1); have k0 := HB.out.cell 0; have k1 := HB.out.cell 1; simp at k0 k1; (try (replace HX := hide (HX.out.trans ho))); (try (replace HPV := hide (HPV.out.only ho (by simp)))); clear ho)
    | (go_at_call 27; refine (HREF.out.2.2.1 _ UN HX.out (by trivial) HN8.out (by have := HUN.out; omega)).mono ?_; rw [HLL.out]; rintro e w9 ⟨v9, rfl, hrd, ho⟩; obtain ⟨Aw, cw, rfl, _, _⟩ := hrd.form; rw [← HLQ.out] at hrd ⊢; replace HO := hide (HO.out.trans ho); replace HB := hide (HB.out.only ho (by simp)); (try clear k0 k1); have k0 := HB.out.cell 0; have k1 := HB.out.cell 1; simp at k0 k1; (try (replace HX := hide (HX.out.trans ho))); (try (replace HPV := hide (HPV.out.only ho (by simp)))); clear ho; have HWV := hide hrd; clear hrd))
  go_loopw [20, 19] (fun i v wr => ∃ k : Nat, k ≤ q ∧ i = .int .i64 k ∧ v = .int .i64 (cntM (L.take k) : Nat) ∧ Hid (Only [] w9 wr)) (fun i _ _ => q - (intOf i).toNat)
  case atStart => exact ⟨0, Nat.zero_le _, rfl, rfl, hide (Only.refl _ _)⟩
  case round =>
    obtain ⟨k, hk, rfl, rfl, ho⟩ := hrel
    by_cases hlt : k < q
    · have hlt' : (k : Int) < q := by omega
      obtain ⟨g, o, rfl, _, _⟩ := HPV.out.addr (by rw [← HLQ.out]; omega)
      obtain ⟨g2, o2, rfl, _, _⟩ := HWV.out.addr (by rw [← HLQ.out]; omega)
      have hce := acts_cell (HPV.out.only ho.out (by simp)) (show k < L.length by rw [← HLQ.out]; exact hlt)
      have HCE := hide (fun W (h : Only [] w9 W) => acts_cell (HWV.out.only (w' := W) (S := []) h (by simp)) (show k < L.length by rw [← HLQ.out]; exact hlt))
      obtain ⟨d0, d1, d2, d3, d4⟩ := hce
      have HCT := hide (cnt_take L (show k < L.length by rw [← HLQ.out]; exact hlt))
      have hcl : cntM (L.take k) ≤ 100000 := Nat.le_trans (cnt_le _) (by rw [List.length_take]; have := HLQ.out; omega)
      generalize L.getD k za = a at *
      obtain ⟨a0, a1, a2, a3⟩ := a
      simp only at d0 d1 d2 d3 HCT HCE
      generalize cntM (L.take k) = ck at *
      go_upto_region 32 with fail
      have HXB := hide (Blk.new wr 66 #[.int .i64 a0, .int .i64 a1, .int .i64 a2, .int .i64 a3, .slice none 0 0])
      have HO9 := hide (ho.out.alloc (.cells #[.int .i64 a0, .int .i64 a1, .int .i64 a2, .int .i64 a3, .slice none 0 0] 66))
      obtain ⟨X, hX⟩ : ∃ X, X = wr.heap.size := ⟨_, rfl⟩
      rw [← hX] at HXB ⊢
      clear hX d0 d1 d2 d3 d4
      generalize (wr.alloc (.cells #[.int .i64 a0, .int .i64 a1, .int .i64 a2, .int .i64 a3, .slice none 0 0] 66)) = vx at *
      have x0 := HXB.out.cell 0; have x1 := HXB.out.cell 1; have x2 := HXB.out.cell 2; have x3 := HXB.out.cell 3; have x4 := HXB.out.cell 4; simp at x0 x1 x2 x3 x4
      have hce := HCE.out _ HO9.out
      obtain ⟨e0, e1, e2, e3, e4⟩ := hce
      have HSA := hide (fun W => same_acts W a0 a1 a2 a3)
      unfold AndPost at HSA
      by_cases h6 : a0 = 6
      · rw [if_pos h6] at HCT
        have h6b : (a0 == 6) = true := beq_iff_eq.2 h6
        clear h6
        refine wp_region_held_drew (S := fun W => Only [] vx W) (by kernel_rfl) (by exact (Only.refl [] vx).drew) (fun hHeld => ?_)
        generalize vx.drew = wd32 at *
        refine wpAnyH_take (i := 0) (v := ?_) rfl (by kernel_rfl) (by kernel_rfl) (by kernel_rfl) (fun _ _ _ h => h) (Or.inl ⟨by rfl, ?_⟩) (by assumption) ?_
        rotate_left
        · (intro w hSw; (try dsimp only at hSw); go_simp; try with_reducible rfl)
        try simp only [List.getElem_toArray, List.getElem_cons_succ, List.getElem_cons_zero, Act.put, List.setIfInBounds_toArray, List.set_cons_zero, List.set_cons_succ]
        refine wpAnyH_take (i := 1) (v := ?_) rfl (by kernel_rfl) (by kernel_rfl) (by kernel_rfl) (fun _ _ _ h => h) (Or.inl ⟨by rfl, ?_⟩) (by assumption) ?_
        rotate_left
        · (intro w hSw; (try dsimp only at hSw); have hXw := HXB.out.only hSw (by simp); have xi := hXw.cell 0; simp at xi; go_simp; try with_reducible rfl)
        try simp only [List.getElem_toArray, List.getElem_cons_succ, List.getElem_cons_zero, Act.put, List.setIfInBounds_toArray, List.set_cons_zero, List.set_cons_succ]
        refine wpAnyH_take (i := 2) (v := ?_) rfl (by kernel_rfl) (by kernel_rfl) (by kernel_rfl) (fun _ _ _ h => h) (Or.inl ⟨by rfl, ?_⟩) (by assumption) ?_
        rotate_left
        · (intro w hSw; (try dsimp only at hSw); go_simp; try with_reducible rfl)
        try simp only [List.getElem_toArray, List.getElem_cons_succ, List.getElem_cons_zero, Act.put, List.setIfInBounds_toArray, List.set_cons_zero, List.set_cons_succ]
        refine wpAnyH_take (i := 3) (v := ?_) rfl (by kernel_rfl) (by kernel_rfl) (by kernel_rfl) (fun _ _ _ h => h) (Or.inl ⟨by rfl, ?_⟩) (by assumption) ?_
        rotate_left
        · (intro w hSw; (try dsimp only at hSw); have hXw := HXB.out.only hSw (by simp); have xi := hXw.cell 1; simp at xi; go_simp; try with_reducible rfl)
        try simp only [List.getElem_toArray, List.getElem_cons_succ, List.getElem_cons_zero, Act.put, List.setIfInBounds_toArray, List.set_cons_zero, List.set_cons_succ]
        refine wpAnyH_take (i := 4) (v := ?_) rfl (by kernel_rfl) (by kernel_rfl) (by kernel_rfl) (fun _ _ _ h => h) (Or.inl ⟨by rfl, ?_⟩) (by assumption) ?_
        rotate_left
        · (intro w hSw; (try dsimp only at hSw); go_simp; try with_reducible rfl)
        try simp only [List.getElem_toArray, List.getElem_cons_succ, List.getElem_cons_zero, Act.put, List.setIfInBounds_toArray, List.set_cons_zero, List.set_cons_succ]
        refine wpAnyH_take (i := 5) (v := ?_) rfl (by kernel_rfl) (by kernel_rfl) (by kernel_rfl) (fun _ _ _ h => h) (Or.inl ⟨by rfl, ?_⟩) (by assumption) ?_
        rotate_left
        · (intro w hSw; (try dsimp only at hSw); have hXw := HXB.out.only hSw (by simp); have xi := hXw.cell 2; simp at xi; go_simp; try with_reducible rfl)
        try simp only [List.getElem_toArray, List.getElem_cons_succ, List.getElem_cons_zero, Act.put, List.setIfInBounds_toArray, List.set_cons_zero, List.set_cons_succ]
        refine wpAnyH_take (i := 6) (v := ?_) rfl (by kernel_rfl) (by kernel_rfl) (by kernel_rfl) (fun _ _ _ h => h) (Or.inl ⟨by rfl, ?_⟩) (by assumption) ?_
        rotate_left
        · (intro w hSw; (try dsimp only at hSw); go_simp; try with_reducible rfl)
        try simp only [List.getElem_toArray, List.getElem_cons_succ, List.getElem_cons_zero, Act.put, List.setIfInBounds_toArray, List.set_cons_zero, List.set_cons_succ]
        refine wpAnyH_take (i := 7) (v := ?_) rfl (by kernel_rfl) (by kernel_rfl) (by kernel_rfl) (fun _ _ _ h => h) (Or.inl ⟨by rfl, ?_⟩) (by assumption) ?_
        rotate_left
        · (intro w hSw; (try dsimp only at hSw); have hXw := HXB.out.only hSw (by simp); have xi := hXw.cell 3; simp at xi; go_simp; try with_reducible rfl)
        try simp only [List.getElem_toArray, List.getElem_cons_succ, List.getElem_cons_zero, Act.put, List.setIfInBounds_toArray, List.set_cons_zero, List.set_cons_succ]
        refine wpAnyH_take (i := 8) (v := ?_) rfl (by kernel_rfl) (by kernel_rfl) (by kernel_rfl) (fun _ _ _ h => h) (Or.inl ⟨by rfl, ?_⟩) (by assumption) ?_
        rotate_left
        · (intro w hSw; (try dsimp only at hSw); go_simp; try with_reducible rfl)
        try simp only [List.getElem_toArray, List.getElem_cons_succ, List.getElem_cons_zero, Act.put, List.setIfInBounds_toArray, List.set_cons_zero, List.set_cons_succ]
        refine wpAnyH_take (i := 9) (v := ?_) rfl (by kernel_rfl) (by kernel_rfl) (by kernel_rfl) (fun _ _ _ h => h) (Or.inl ⟨by rfl, ?_⟩) (by assumption) ?_
        rotate_left
        · (intro w hSw; (try dsimp only at hSw); have hXw := HXB.out.only hSw (by simp); have xi := hXw.cell 4; simp at xi; go_simp; try with_reducible rfl)
        try simp only [List.getElem_toArray, List.getElem_cons_succ, List.getElem_cons_zero, Act.put, List.setIfInBounds_toArray, List.set_cons_zero, List.set_cons_succ]
        refine wpAnyH_take (i := 10) (v := ?_) rfl (by kernel_rfl) (by kernel_rfl) (by kernel_rfl) (fun _ _ _ h => h) (Or.inl ⟨by rfl, ?_⟩) (by assumption) ?_
        rotate_left
        · (intro w hSw; (try dsimp only at hSw); go_simp; try with_reducible rfl)
        try simp only [List.getElem_toArray, List.getElem_cons_succ, List.getElem_cons_zero, Act.put, List.setIfInBounds_toArray, List.set_cons_zero, List.set_cons_succ]
        refine wpAnyH_take (i := 11) (v := ?_) rfl (by kernel_rfl) (by kernel_rfl) (by kernel_rfl) (fun _ _ _ h => h) (Or.inl ⟨by rfl, ?_⟩) (by assumption) ?_
        rotate_left
        · (intro w hSw; (try dsimp only at hSw); go_simp; try with_reducible rfl)
        try simp only [List.getElem_toArray, List.getElem_cons_succ, List.getElem_cons_zero, Act.put, List.setIfInBounds_toArray, List.set_cons_zero, List.set_cons_succ]
        refine wpAnyH_take (i := 12) (v := ?_) rfl (by kernel_rfl) (by kernel_rfl) (by kernel_rfl) (fun _ _ _ h => h) (Or.inl ⟨by rfl, ?_⟩) (by assumption) ?_
        rotate_left
        · (intro w hSw; (try dsimp only at hSw); go_simp; try with_reducible rfl)
        try simp only [List.getElem_toArray, List.getElem_cons_succ, List.getElem_cons_zero, Act.put, List.setIfInBounds_toArray, List.set_cons_zero, List.set_cons_succ]
        refine wpAnyH_take (i := 13) (v := ?_) rfl (by kernel_rfl) (by kernel_rfl) (by kernel_rfl) (fun _ _ _ h => h) (Or.inl ⟨by rfl, ?_⟩) (by assumption) ?_
        rotate_left
        · (intro w hSw; (try dsimp only at hSw); go_simp; try with_reducible rfl)
        try simp only [List.getElem_toArray, List.getElem_cons_succ, List.getElem_cons_zero, Act.put, List.setIfInBounds_toArray, List.set_cons_zero, List.set_cons_succ]
        refine wpAnyH_take (i := 14) (v := ?_) rfl (by kernel_rfl) (by kernel_rfl) (by kernel_rfl) (fun _ _ _ h => h) (Or.inl ⟨by rfl, ?_⟩) (by assumption) ?_
        rotate_left
        · (intro w hSw; (try dsimp only at hSw); have cc := HCE.out _ (HO9.out.trans hSw); obtain ⟨e0, e1, e2, e3, e4⟩ := cc; go_simp; try with_reducible rfl)
        try simp only [List.getElem_toArray, List.getElem_cons_succ, List.getElem_cons_zero, Act.put, List.setIfInBounds_toArray, List.set_cons_zero, List.set_cons_succ]
        refine wpAnyH_ready (rs := [15]) (by kernel_rfl) (by simp) ?_
        refine (AllReadyH.cons rfl (fun K hK => ?_) AllReadyH.nil)
        go_simp
        (go_at_call 28; (with_reducible refine (HSA.out _).mono ?_); rintro e2 w15 ⟨rfl, ho⟩)
        refine hK.out _ _ (by first | exact hHeld.trans ho | exact hHeld.trans (ho.mono (by simp))) (fun hHeldN => ?_)
        clear hK K ho hHeld
        have hHeld := hHeldN
        clear hHeldN
        try simp only [List.getElem_toArray, List.getElem_cons_succ, List.getElem_cons_zero, Act.put, List.setIfInBounds_toArray, List.set_cons_zero, List.set_cons_succ]
        refine wpAnyH_take (i := 16) (v := ?_) rfl (by kernel_rfl) (by kernel_rfl) (by kernel_rfl) (fun _ _ _ h => h) (Or.inl ⟨by rfl, ?_⟩) (by assumption) ?_
        rotate_left
        · (intro w hSw; (try dsimp only at hSw); go_simp; try with_reducible rfl)
        try simp only [List.getElem_toArray, List.getElem_cons_succ, List.getElem_cons_zero, Act.put, List.setIfInBounds_toArray, List.set_cons_zero, List.set_cons_succ]
        refine wpAnyH_done (by kernel_rfl) ?_ _
        replace HO9 := hide (HO9.out.trans hHeld)
        replace HXB := hide (HXB.out.only hHeld (by simp))
        clear hHeld x0 x1 x2 x3 x4 e0 e1 e2 e3 e4
        have x0 := HXB.out.cell 0; simp at x0
        go_wp2_with fail
        go_roundw
        case rel => exact ⟨k + 1, by omega, by go_num, by rw [HCT.out]; go_num, HO9⟩
        case measure => simp [intOf] <;> omega
      · rw [if_neg h6] at HCT
        have h6b : (a0 == 6) = false := beq_eq_false_iff_ne.2 h6
        clear h6
        refine wp_region_held_drew (S := fun W => Only [] vx W) (by kernel_rfl) (by exact (Only.refl [] vx).drew) (fun hHeld => ?_)
        generalize vx.drew = wd32 at *
        refine wpAnyH_take (i := 0) (v := ?_) rfl (by kernel_rfl) (by kernel_rfl) (by kernel_rfl) (fun _ _ _ h => h) (Or.inl ⟨by rfl, ?_⟩) (by assumption) ?_
        rotate_left
        · (intro w hSw; (try dsimp only at hSw); go_simp; try with_reducible rfl)
        try simp only [List.getElem_toArray, List.getElem_cons_succ, List.getElem_cons_zero, Act.put, List.setIfInBounds_toArray, List.set_cons_zero, List.set_cons_succ]
        refine wpAnyH_take (i := 1) (v := ?_) rfl (by kernel_rfl) (by kernel_rfl) (by kernel_rfl) (fun _ _ _ h => h) (Or.inl ⟨by rfl, ?_⟩) (by assumption) ?_
        rotate_left
        · (intro w hSw; (try dsimp only at hSw); have hXw := HXB.out.only hSw (by simp); have xi := hXw.cell 0; simp at xi; go_simp; try with_reducible rfl)
        try simp only [List.getElem_toArray, List.getElem_cons_succ, List.getElem_cons_zero, Act.put, List.setIfInBounds_toArray, List.set_cons_zero, List.set_cons_succ]
        refine wpAnyH_take (i := 2) (v := ?_) rfl (by kernel_rfl) (by kernel_rfl) (by kernel_rfl) (fun _ _ _ h => h) (Or.inl ⟨by rfl, ?_⟩) (by assumption) ?_
        rotate_left
        · (intro w hSw; (try dsimp only at hSw); go_simp; try with_reducible rfl)
        try simp only [List.getElem_toArray, List.getElem_cons_succ, List.getElem_cons_zero, Act.put, List.setIfInBounds_toArray, List.set_cons_zero, List.set_cons_succ]
        refine wpAnyH_take (i := 3) (v := ?_) rfl (by kernel_rfl) (by kernel_rfl) (by kernel_rfl) (fun _ _ _ h => h) (Or.inl ⟨by rfl, ?_⟩) (by assumption) ?_
        rotate_left
        · (intro w hSw; (try dsimp only at hSw); have hXw := HXB.out.only hSw (by simp); have xi := hXw.cell 1; simp at xi; go_simp; try with_reducible rfl)
        try simp only [List.getElem_toArray, List.getElem_cons_succ, List.getElem_cons_zero, Act.put, List.setIfInBounds_toArray, List.set_cons_zero, List.set_cons_succ]
        refine wpAnyH_take (i := 4) (v := ?_) rfl (by kernel_rfl) (by kernel_rfl) (by kernel_rfl) (fun _ _ _ h => h) (Or.inl ⟨by rfl, ?_⟩) (by assumption) ?_
        rotate_left
        · (intro w hSw; (try dsimp only at hSw); go_simp; try with_reducible rfl)
        try simp only [List.getElem_toArray, List.getElem_cons_succ, List.getElem_cons_zero, Act.put, List.setIfInBounds_toArray, List.set_cons_zero, List.set_cons_succ]
        refine wpAnyH_take (i := 5) (v := ?_) rfl (by kernel_rfl) (by kernel_rfl) (by kernel_rfl) (fun _ _ _ h => h) (Or.inl ⟨by rfl, ?_⟩) (by assumption) ?_
        rotate_left
        · (intro w hSw; (try dsimp only at hSw); have hXw := HXB.out.only hSw (by simp); have xi := hXw.cell 2; simp at xi; go_simp; try with_reducible rfl)
        try simp only [List.getElem_toArray, List.getElem_cons_succ, List.getElem_cons_zero, Act.put, List.setIfInBounds_toArray, List.set_cons_zero, List.set_cons_succ]
        refine wpAnyH_take (i := 6) (v := ?_) rfl (by kernel_rfl) (by kernel_rfl) (by kernel_rfl) (fun _ _ _ h => h) (Or.inl ⟨by rfl, ?_⟩) (by assumption) ?_
        rotate_left
        · (intro w hSw; (try dsimp only at hSw); go_simp; try with_reducible rfl)
        try simp only [List.getElem_toArray, List.getElem_cons_succ, List.getElem_cons_zero, Act.put, List.setIfInBounds_toArray, List.set_cons_zero, List.set_cons_succ]
        refine wpAnyH_take (i := 7) (v := ?_) rfl (by kernel_rfl) (by kernel_rfl) (by kernel_rfl) (fun _ _ _ h => h) (Or.inl ⟨by rfl, ?_⟩) (by assumption) ?_
        rotate_left
        · (intro w hSw; (try dsimp only at hSw); have hXw := HXB.out.only hSw (by simp); have xi := hXw.cell 3; simp at xi; go_simp; try with_reducible rfl)
        try simp only [List.getElem_toArray, List.getElem_cons_succ, List.getElem_cons_zero, Act.put, List.setIfInBounds_toArray, List.set_cons_zero, List.set_cons_succ]
        refine wpAnyH_take (i := 8) (v := ?_) rfl (by kernel_rfl) (by kernel_rfl) (by kernel_rfl) (fun _ _ _ h => h) (Or.inl ⟨by rfl, ?_⟩) (by assumption) ?_
        rotate_left
        · (intro w hSw; (try dsimp only at hSw); go_simp; try with_reducible rfl)
        try simp only [List.getElem_toArray, List.getElem_cons_succ, List.getElem_cons_zero, Act.put, List.setIfInBounds_toArray, List.set_cons_zero, List.set_cons_succ]
        refine wpAnyH_take (i := 9) (v := ?_) rfl (by kernel_rfl) (by kernel_rfl) (by kernel_rfl) (fun _ _ _ h => h) (Or.inl ⟨by rfl, ?_⟩) (by assumption) ?_
        rotate_left
        · (intro w hSw; (try dsimp only at hSw); have hXw := HXB.out.only hSw (by simp); have xi := hXw.cell 4; simp at xi; go_simp; try with_reducible rfl)
        try simp only [List.getElem_toArray, List.getElem_cons_succ, List.getElem_cons_zero, Act.put, List.setIfInBounds_toArray, List.set_cons_zero, List.set_cons_succ]
        refine wpAnyH_take (i := 10) (v := ?_) rfl (by kernel_rfl) (by kernel_rfl) (by kernel_rfl) (fun _ _ _ h => h) (Or.inl ⟨by rfl, ?_⟩) (by assumption) ?_
        rotate_left
        · (intro w hSw; (try dsimp only at hSw); go_simp; try with_reducible rfl)
        try simp only [List.getElem_toArray, List.getElem_cons_succ, List.getElem_cons_zero, Act.put, List.setIfInBounds_toArray, List.set_cons_zero, List.set_cons_succ]
        refine wpAnyH_take (i := 11) (v := ?_) rfl (by kernel_rfl) (by kernel_rfl) (by kernel_rfl) (fun _ _ _ h => h) (Or.inl ⟨by rfl, ?_⟩) (by assumption) ?_
        rotate_left
        · (intro w hSw; (try dsimp only at hSw); go_simp; try with_reducible rfl)
        try simp only [List.getElem_toArray, List.getElem_cons_succ, List.getElem_cons_zero, Act.put, List.setIfInBounds_toArray, List.set_cons_zero, List.set_cons_succ]
        refine wpAnyH_take (i := 12) (v := ?_) rfl (by kernel_rfl) (by kernel_rfl) (by kernel_rfl) (fun _ _ _ h => h) (Or.inl ⟨by rfl, ?_⟩) (by assumption) ?_
        rotate_left
        · (intro w hSw; (try dsimp only at hSw); go_simp; try with_reducible rfl)
        try simp only [List.getElem_toArray, List.getElem_cons_succ, List.getElem_cons_zero, Act.put, List.setIfInBounds_toArray, List.set_cons_zero, List.set_cons_succ]
        refine wpAnyH_take (i := 13) (v := ?_) rfl (by kernel_rfl) (by kernel_rfl) (by kernel_rfl) (fun _ _ _ h => h) (Or.inl ⟨by rfl, ?_⟩) (by assumption) ?_
        rotate_left
        · (intro w hSw; (try dsimp only at hSw); go_simp; try with_reducible rfl)
        try simp only [List.getElem_toArray, List.getElem_cons_succ, List.getElem_cons_zero, Act.put, List.setIfInBounds_toArray, List.set_cons_zero, List.set_cons_succ]
        refine wpAnyH_take (i := 14) (v := ?_) rfl (by kernel_rfl) (by kernel_rfl) (by kernel_rfl) (fun _ _ _ h => h) (Or.inl ⟨by rfl, ?_⟩) (by assumption) ?_
        rotate_left
        · (intro w hSw; (try dsimp only at hSw); have cc := HCE.out _ (HO9.out.trans hSw); obtain ⟨e0, e1, e2, e3, e4⟩ := cc; go_simp; try with_reducible rfl)
        try simp only [List.getElem_toArray, List.getElem_cons_succ, List.getElem_cons_zero, Act.put, List.setIfInBounds_toArray, List.set_cons_zero, List.set_cons_succ]
        refine wpAnyH_ready (rs := [15]) (by kernel_rfl) (by simp) ?_
        refine (AllReadyH.cons rfl (fun K hK => ?_) AllReadyH.nil)
        go_simp
        (go_at_call 28; (with_reducible refine (HSA.out _).mono ?_); rintro e2 w15 ⟨rfl, ho⟩)
        refine hK.out _ _ (by first | exact hHeld.trans ho | exact hHeld.trans (ho.mono (by simp))) (fun hHeldN => ?_)
        clear hK K ho hHeld
        have hHeld := hHeldN
        clear hHeldN
        try simp only [List.getElem_toArray, List.getElem_cons_succ, List.getElem_cons_zero, Act.put, List.setIfInBounds_toArray, List.set_cons_zero, List.set_cons_succ]
        refine wpAnyH_take (i := 16) (v := ?_) rfl (by kernel_rfl) (by kernel_rfl) (by kernel_rfl) (fun _ _ _ h => h) (Or.inl ⟨by rfl, ?_⟩) (by assumption) ?_
        rotate_left
        · (intro w hSw; (try dsimp only at hSw); go_simp; try with_reducible rfl)
        try simp only [List.getElem_toArray, List.getElem_cons_succ, List.getElem_cons_zero, Act.put, List.setIfInBounds_toArray, List.set_cons_zero, List.set_cons_succ]
        refine wpAnyH_done (by kernel_rfl) ?_ _
        replace HO9 := hide (HO9.out.trans hHeld)
        replace HXB := hide (HXB.out.only hHeld (by simp))
        clear hHeld x0 x1 x2 x3 x4 e0 e1 e2 e3 e4
        have x0 := HXB.out.cell 0; simp at x0
        go_wp2_with fail
        go_roundw
        case rel => exact ⟨k + 1, by omega, by go_num, by rw [HCT.out]; go_num, HO9⟩
        case measure => simp [intOf] <;> omega
    · have hlt' : ¬ (k : Int) < q := by omega
      obtain rfl : q = k := by omega
      have HE := hide (show cntM (L.take q) = cn by rw [HCN.out, HLQ.out, List.take_length])
      rw [HE.out]
      go_wp2_with fail
      go_ret
      exact ⟨rfl, HO.out.trans ho.out⟩
set_option maxRecDepth 100000 in
set_option maxHeartbeats 12800000 in
theorem rp_u3_h4 (w : World) (mv rv : Value) (m : List (Int × Int)) (rs : List Rt) (UN : Nat) (hostN secN : Nat) (hm : RdS 2 ptc w [] mv m) (hmf : ∀ p ∈ m, Fit p) (hr : RdR w [] rv rs) (hf : ∀ r ∈ rs, FitR r) (hhv : heavyV m rs = false) (hj : jrV m rs = true) (hU : UN ≤ 60) (hh : hostN < rs.length) (hT : secN ≤ 9223372036854775807) :
    Calls Try.prog 4 #[.agg #[mv, rv], .int .i64 (UN : Nat), .int .i64 (hostN : Nat), .int .i64 (secN : Nat)] w fun e w' => e = .returned (.bool true) ∧ Only [] w w' := by
  have HAW := hide (fun W => awake22 W)
  have HHV := hide (fun W (h : Only [] w W) => heavy_any W mv rv m rs (hm.only h (by simp)) (hr.only h (by simp)))
  rw [hhv] at HHV
  obtain ⟨hml, hrl, hll⟩ := heavy_no hhv
  have HAS := hide (fun W (h : Only [] w W) => as_any W [] [] mv rv m rs (hm.only h (by simp)) hml (hr.only h (by simp)) hrl hll)
  have HRF := hide (fun w5 v1 v2 rs' h1 h2 h3 => refs_of (w5 := w5) (v1 := v1) (v2 := v2) (m := m) (rs := rs) (rs' := rs') h1 h2 h3 hml hrl hll hf)
  have HJR := hide (fun W (h : Only [] w W) => journey_right W [] [] mv rv m rs (hm.only h (by simp)) hml hmf (hr.only h (by simp)) hrl hll hf)
  rw [hj] at HJR
  have HJT := hide hj
  have HN8 := hide (show rs.length ≤ 8 from by unfold jrV at hj; rw [Bool.and_eq_true, Bool.and_eq_true] at hj; exact (of_decide_eq_true hj.2.1).2)
  obtain ⟨Am0, cm0, hmv0, _, _⟩ := hm.form
  obtain ⟨A0, cap0, hrv0, _, _⟩ := hr.1.form
  have HUN := hide hU
  have HPL := hide (fun W (h : Only [] w W) => plan_ok W [] [] mv rv m rs UN (hm.only h (by simp)) hml hmf (hr.only h (by simp)) hrl hll hf hj (by omega))
  have HLB := hide (show (planK m rs (UN + 1)).length ≤ 100000 from Nat.le_trans (plan_len m rs HN8.out (UN + 1)) (by omega))
  have HMO := hide (fun W (h : Only [] w W) => moves_ok W mv rv _ _ _ _ _ _ hmv0 hrv0 UN (planK m rs (UN + 1)) HLB.out (fun W' h' => HPL.out W' (h.trans h')))
  generalize hL : planK m rs (UN + 1) = L at *
  have HLL := hide hL
  clear hL
  obtain ⟨q, hq⟩ : ∃ q, q = L.length := ⟨_, rfl⟩
  have HLQ := hide hq
  have hqb : q ≤ 100000 := by rw [hq]; exact HLB.out
  obtain ⟨cn, hcn⟩ : ∃ c, c = cntM L := ⟨_, rfl⟩
  have HCN := hide hcn
  have hcb : cn ≤ 100000 := by rw [hcn]; exact Nat.le_trans (cnt_le L) HLB.out
  rw [← hcn] at HMO
  clear hq hcn
  have HAT := hide (fun W (h : Only [] w W) => jat_ok W [] [] mv rv m rs hostN secN (hm.only h (by simp)) hml hmf (hr.only h (by simp)) hrl hll hf hj hh hT)
  rw [hj] at HRF
  clear hj hll hmv0 hrv0 
  obtain ⟨Am, cm, rfl, hcm0, hcm1⟩ := hm.form
  obtain ⟨A, cap, rfl, hcap, hmx⟩ := hr.1.form
  unfold maxLen at hmx hcm1
  generalize hnm : m.length = nm at *
  generalize hn : rs.length = n at *
  have HNM := hide hnm.symm
  have HN := hide hn.symm
  have HB := hide (Blk.new w 49 #[.slice Am nm cm, .slice A n cap])
  have HO := hide ((Only.refl [] w).alloc (.cells #[.slice Am nm cm, .slice A n cap] 49))
  clear hm hmf hr hf hhv hnm hn
  have hUi : ¬ (60 : Int) < UN := by omega
  have hUj : ¬ (UN : Int) < 0 := by omega
  have hUk : ¬ (1000 : Int) < UN := by omega
  have HHN := hide hh
  have HTN := hide hT
  have hhI : ¬ (hostN : Int) < 0 := by omega
  have hhJ : ¬ (n : Int) ≤ hostN := by omega
  have htI : ¬ (secN : Int) < 0 := by omega
  have hn8 := HN8.out
  obtain ⟨Y, hY⟩ : ∃ Y : Int, Y = 8 * (nearV m (atV (rs.getD hostN zr).1 (rs.getD hostN zr).2.2 secN) : Nat) + hostN + 1 := ⟨_, rfl⟩
  rw [← hY] at HAT
  have HY := hide hY
  clear hY
  have hne : (Y != Y) = false := by simp
  go_enter Try.func4, Try.ntmps4
  have hqq : ((q : Int) != (q : Int)) = false := by simp
  go_wp2_with (first
    | (go_at_call 18; refine (HAW.out _).mono ?_; rintro e w0 ⟨rfl, rfl⟩)
    | (go_at_call 19; refine (HHV.out _ HO.out).mono ?_; rintro e w1 ⟨rfl, ho⟩; replace HO := hide (HO.out.trans ho); replace HB := hide (HB.out.only ho (by simp)); (try clear k0 k1); have k0 := HB.out.cell 0; have k1 := HB.out.cell 1; simp at k0 k1; (try (replace HX := hide (HX.out.trans ho))); (try (replace HPV := hide (HPV.out.only ho (by simp)))); clear ho)
    | (go_at_call 20; refine (HAS.out _ HO.out).mono ?_; rintro e w2 ⟨v1, v2, rs2, rfl, hms, hrs, hk, ho⟩; have HREF := hide (HRF.out w2 v1 v2 rs2 hms hrs hk); obtain ⟨A1, c1, rfl⟩ := HREF.out.2.2.2.1; obtain ⟨A2, c2, rfl⟩ := HREF.out.2.2.2.2; replace HO := hide (HO.out.trans ho); replace HB := hide (HB.out.only ho (by simp)); (try clear k0 k1); have k0 := HB.out.cell 0; have k1 := HB.out.cell 1; simp at k0 k1; (try (replace HX := hide (HX.out.trans ho))); (try (replace HPV := hide (HPV.out.only ho (by simp)))); clear ho; have HX := hide (Only.refl [] w2); clear hms hrs hk)
    | (go_at_call 21; refine (HREF.out.1 _ HX.out).mono ?_; rintro e w3 ⟨rfl, ho⟩; replace HO := hide (HO.out.trans ho); replace HB := hide (HB.out.only ho (by simp)); (try clear k0 k1); have k0 := HB.out.cell 0; have k1 := HB.out.cell 1; simp at k0 k1; (try (replace HX := hide (HX.out.trans ho))); (try (replace HPV := hide (HPV.out.only ho (by simp)))); clear ho)
    | (go_at_call 22; refine (HPL.out _ HO.out).mono ?_; rintro e w4 ⟨v4, rfl, hrd, ho⟩; obtain ⟨Ap, cp, rfl, _, _⟩ := hrd.form; rw [← HLQ.out] at hrd ⊢; replace HO := hide (HO.out.trans ho); replace HB := hide (HB.out.only ho (by simp)); (try clear k0 k1); have k0 := HB.out.cell 0; have k1 := HB.out.cell 1; simp at k0 k1; (try (replace HX := hide (HX.out.trans ho))); (try (replace HPV := hide (HPV.out.only ho (by simp)))); clear ho; have HPV := hide hrd; clear hrd)
    | (go_at_call 23; refine (HMO.out _ HO.out).mono ?_; rintro e w5 ⟨rfl, ho⟩; replace HO := hide (HO.out.trans ho); replace HB := hide (HB.out.only ho (by simp)); (try clear k0 k1); have k0 := HB.out.cell 0; have k1 := HB.out.cell 1; simp at k0 k1; (try (replace HX := hide (HX.out.trans ho))); (try (replace HPV := hide (HPV.out.only ho (by simp)))); clear ho)
    | (go_at_call 24; refine (HAT.out _ HO.out).mono ?_; rintro e w6 ⟨rfl, ho⟩; replace HO := hide (HO.out.trans ho); replace HB := hide (HB.out.only ho (by simp)); (try clear k0 k1); have k0 := HB.out.cell 0; have k1 := HB.out.cell 1; simp at k0 k1; (try (replace HX := hide (HX.out.trans ho))); (try (replace HPV := hide (HPV.out.only ho (by simp)))); clear ho)
    | (go_at_call 25; refine (HJR.out _ HO.out).mono ?_; rintro e w7 ⟨rfl, ho⟩; replace HO := hide (HO.out.trans ho); replace HB := hide (HB.out.only ho (by simp)); (try clear k0 k1); have k0 := HB.out.cell 0; have k1 := HB.out.cell 1; simp at k0 k1; (try (replace HX := hide (HX.out.trans ho))); (try (replace HPV := hide (HPV.out.only ho (by simp)))); clear ho)
    | (go_at_call 26; refine (HREF.out.2.1 _ hostN secN HX.out (by trivial) (by have := HHN.out; omega) (by have := HTN.out; omega)).mono ?_; unfold NumPost; rw [← HY.out]; rintro e w8 ⟨rfl, ho⟩; replace HO := hide (HO.out.trans ho); replace HB := hide (HB.out.only ho (by simp)); (try clear k0 k1); have k0 := HB.out.cell 0; have k1 := HB.out.cell 1; simp at k0 k1; (try (replace HX := hide (HX.out.trans ho))); (try (replace HPV := hide (HPV.out.only ho (by simp)))); clear ho)
    | (go_at_call 27; refine (HREF.out.2.2.1 _ UN HX.out (by trivial) HN8.out (by have := HUN.out; omega)).mono ?_; rw [HLL.out]; rintro e w9 ⟨v9, rfl, hrd, ho⟩; obtain ⟨Aw, cw, rfl, _, _⟩ := hrd.form; rw [← HLQ.out] at hrd ⊢; replace HO := hide (HO.out.trans ho); replace HB := hide (HB.out.only ho (by simp)); (try clear k0 k1); have k0 := HB.out.cell 0; have k1 := HB.out.cell 1; simp at k0 k1; (try (replace HX := hide (HX.out.trans ho))); (try (replace HPV := hide (HPV.out.only ho (by simp)))); clear ho; have HWV := hide hrd; clear hrd))
  go_loopw [20, 19] (fun i v wr => ∃ k : Nat, k ≤ q ∧ i = .int .i64 k ∧ v = .int .i64 (cntM (L.take k) : Nat) ∧ Hid (Only [] w9 wr)) (fun i _ _ => q - (intOf i).toNat)
  case atStart => exact ⟨0, Nat.zero_le _, rfl, rfl, hide (Only.refl _ _)⟩
  case round =>
    obtain ⟨k, hk, rfl, rfl, ho⟩ := hrel
    by_cases hlt : k < q
    · have hlt' : (k : Int) < q := by omega
      obtain ⟨g, o, rfl, _, _⟩ := HPV.out.addr (by rw [← HLQ.out]; omega)
      obtain ⟨g2, o2, rfl, _, _⟩ := HWV.out.addr (by rw [← HLQ.out]; omega)
      have hce := acts_cell (HPV.out.only ho.out (by simp)) (show k < L.length by rw [← HLQ.out]; exact hlt)
      have HCE := hide (fun W (h : Only [] w9 W) => acts_cell (HWV.out.only (w' := W) (S := []) h (by simp)) (show k < L.length by rw [← HLQ.out]; exact hlt))
      obtain ⟨d0, d1, d2, d3, d4⟩ := hce
      have HCT := hide (cnt_take L (show k < L.length by rw [← HLQ.out]; exact hlt))
      have hcl : cntM (L.take k) ≤ 100000 := Nat.le_trans (cnt_le _) (by rw [List.length_take]; have := HLQ.out; omega)
      generalize L.getD k za = a at *
      obtain ⟨a0, a1, a2, a3⟩ := a
      simp only at d0 d1 d2 d3 HCT HCE
      generalize cntM (L.take k) = ck at *
      go_upto_region 32 with fail
      have HXB := hide (Blk.new wr 66 #[.int .i64 a0, .int .i64 a1, .int .i64 a2, .int .i64 a3, .slice none 0 0])
      have HO9 := hide (ho.out.alloc (.cells #[.int .i64 a0, .int .i64 a1, .int .i64 a2, .int .i64 a3, .slice none 0 0] 66))
      obtain ⟨X, hX⟩ : ∃ X, X = wr.heap.size := ⟨_, rfl⟩
      rw [← hX] at HXB ⊢
      clear hX d0 d1 d2 d3 d4
      generalize (wr.alloc (.cells #[.int .i64 a0, .int .i64 a1, .int .i64 a2, .int .i64 a3, .slice none 0 0] 66)) = vx at *
      have x0 := HXB.out.cell 0; have x1 := HXB.out.cell 1; have x2 := HXB.out.cell 2; have x3 := HXB.out.cell 3; have x4 := HXB.out.cell 4; simp at x0 x1 x2 x3 x4
      have hce := HCE.out _ HO9.out
      obtain ⟨e0, e1, e2, e3, e4⟩ := hce
      have HSA := hide (fun W => same_acts W a0 a1 a2 a3)
      unfold AndPost at HSA
      by_cases h6 : a0 = 6
      · rw [if_pos h6] at HCT
        have h6b : (a0 == 6) = true := beq_iff_eq.2 h6
        clear h6
        refine wp_region_held_drew (S := fun W => Only [] vx W) (by kernel_rfl) (by exact (Only.refl [] vx).drew) (fun hHeld => ?_)
        generalize vx.drew = wd32 at *
        refine wpAnyH_take (i := 0) (v := ?_) rfl (by kernel_rfl) (by kernel_rfl) (by kernel_rfl) (fun _ _ _ h => h) (Or.inl ⟨by rfl, ?_⟩) (by assumption) ?_
        rotate_left
        · (intro w hSw; (try dsimp only at hSw); go_simp; try with_reducible rfl)
        try simp only [List.getElem_toArray, List.getElem_cons_succ, List.getElem_cons_zero, Act.put, List.setIfInBounds_toArray, List.set_cons_zero, List.set_cons_succ]
        refine wpAnyH_take (i := 1) (v := ?_) rfl (by kernel_rfl) (by kernel_rfl) (by kernel_rfl) (fun _ _ _ h => h) (Or.inl ⟨by rfl, ?_⟩) (by assumption) ?_
        rotate_left
        · (intro w hSw; (try dsimp only at hSw); have hXw := HXB.out.only hSw (by simp); have xi := hXw.cell 0; simp at xi; go_simp; try with_reducible rfl)
        try simp only [List.getElem_toArray, List.getElem_cons_succ, List.getElem_cons_zero, Act.put, List.setIfInBounds_toArray, List.set_cons_zero, List.set_cons_succ]
        refine wpAnyH_take (i := 2) (v := ?_) rfl (by kernel_rfl) (by kernel_rfl) (by kernel_rfl) (fun _ _ _ h => h) (Or.inl ⟨by rfl, ?_⟩) (by assumption) ?_
        rotate_left
        · (intro w hSw; (try dsimp only at hSw); go_simp; try with_reducible rfl)
        try simp only [List.getElem_toArray, List.getElem_cons_succ, List.getElem_cons_zero, Act.put, List.setIfInBounds_toArray, List.set_cons_zero, List.set_cons_succ]
        refine wpAnyH_take (i := 3) (v := ?_) rfl (by kernel_rfl) (by kernel_rfl) (by kernel_rfl) (fun _ _ _ h => h) (Or.inl ⟨by rfl, ?_⟩) (by assumption) ?_
        rotate_left
        · (intro w hSw; (try dsimp only at hSw); have hXw := HXB.out.only hSw (by simp); have xi := hXw.cell 1; simp at xi; go_simp; try with_reducible rfl)
        try simp only [List.getElem_toArray, List.getElem_cons_succ, List.getElem_cons_zero, Act.put, List.setIfInBounds_toArray, List.set_cons_zero, List.set_cons_succ]
        refine wpAnyH_take (i := 4) (v := ?_) rfl (by kernel_rfl) (by kernel_rfl) (by kernel_rfl) (fun _ _ _ h => h) (Or.inl ⟨by rfl, ?_⟩) (by assumption) ?_
        rotate_left
        · (intro w hSw; (try dsimp only at hSw); go_simp; try with_reducible rfl)
        try simp only [List.getElem_toArray, List.getElem_cons_succ, List.getElem_cons_zero, Act.put, List.setIfInBounds_toArray, List.set_cons_zero, List.set_cons_succ]
        refine wpAnyH_take (i := 5) (v := ?_) rfl (by kernel_rfl) (by kernel_rfl) (by kernel_rfl) (fun _ _ _ h => h) (Or.inl ⟨by rfl, ?_⟩) (by assumption) ?_
        rotate_left
        · (intro w hSw; (try dsimp only at hSw); have hXw := HXB.out.only hSw (by simp); have xi := hXw.cell 2; simp at xi; go_simp; try with_reducible rfl)
        try simp only [List.getElem_toArray, List.getElem_cons_succ, List.getElem_cons_zero, Act.put, List.setIfInBounds_toArray, List.set_cons_zero, List.set_cons_succ]
        refine wpAnyH_take (i := 6) (v := ?_) rfl (by kernel_rfl) (by kernel_rfl) (by kernel_rfl) (fun _ _ _ h => h) (Or.inl ⟨by rfl, ?_⟩) (by assumption) ?_
        rotate_left
        · (intro w hSw; (try dsimp only at hSw); go_simp; try with_reducible rfl)
        try simp only [List.getElem_toArray, List.getElem_cons_succ, List.getElem_cons_zero, Act.put, List.setIfInBounds_toArray, List.set_cons_zero, List.set_cons_succ]
        refine wpAnyH_take (i := 7) (v := ?_) rfl (by kernel_rfl) (by kernel_rfl) (by kernel_rfl) (fun _ _ _ h => h) (Or.inl ⟨by rfl, ?_⟩) (by assumption) ?_
        rotate_left
        · (intro w hSw; (try dsimp only at hSw); have hXw := HXB.out.only hSw (by simp); have xi := hXw.cell 3; simp at xi; go_simp; try with_reducible rfl)
        try simp only [List.getElem_toArray, List.getElem_cons_succ, List.getElem_cons_zero, Act.put, List.setIfInBounds_toArray, List.set_cons_zero, List.set_cons_succ]
        refine wpAnyH_take (i := 8) (v := ?_) rfl (by kernel_rfl) (by kernel_rfl) (by kernel_rfl) (fun _ _ _ h => h) (Or.inl ⟨by rfl, ?_⟩) (by assumption) ?_
        rotate_left
        · (intro w hSw; (try dsimp only at hSw); go_simp; try with_reducible rfl)
        try simp only [List.getElem_toArray, List.getElem_cons_succ, List.getElem_cons_zero, Act.put, List.setIfInBounds_toArray, List.set_cons_zero, List.set_cons_succ]
        refine wpAnyH_take (i := 9) (v := ?_) rfl (by kernel_rfl) (by kernel_rfl) (by kernel_rfl) (fun _ _ _ h => h) (Or.inl ⟨by rfl, ?_⟩) (by assumption) ?_
        rotate_left
        · (intro w hSw; (try dsimp only at hSw); have hXw := HXB.out.only hSw (by simp); have xi := hXw.cell 4; simp at xi; go_simp; try with_reducible rfl)
        try simp only [List.getElem_toArray, List.getElem_cons_succ, List.getElem_cons_zero, Act.put, List.setIfInBounds_toArray, List.set_cons_zero, List.set_cons_succ]
        refine wpAnyH_take (i := 10) (v := ?_) rfl (by kernel_rfl) (by kernel_rfl) (by kernel_rfl) (fun _ _ _ h => h) (Or.inl ⟨by rfl, ?_⟩) (by assumption) ?_
        rotate_left
        · (intro w hSw; (try dsimp only at hSw); go_simp; try with_reducible rfl)
        try simp only [List.getElem_toArray, List.getElem_cons_succ, List.getElem_cons_zero, Act.put, List.setIfInBounds_toArray, List.set_cons_zero, List.set_cons_succ]
        refine wpAnyH_take (i := 11) (v := ?_) rfl (by kernel_rfl) (by kernel_rfl) (by kernel_rfl) (fun _ _ _ h => h) (Or.inl ⟨by rfl, ?_⟩) (by assumption) ?_
        rotate_left
        · (intro w hSw; (try dsimp only at hSw); go_simp; try with_reducible rfl)
        try simp only [List.getElem_toArray, List.getElem_cons_succ, List.getElem_cons_zero, Act.put, List.setIfInBounds_toArray, List.set_cons_zero, List.set_cons_succ]
        refine wpAnyH_take (i := 12) (v := ?_) rfl (by kernel_rfl) (by kernel_rfl) (by kernel_rfl) (fun _ _ _ h => h) (Or.inl ⟨by rfl, ?_⟩) (by assumption) ?_
        rotate_left
        · (intro w hSw; (try dsimp only at hSw); go_simp; try with_reducible rfl)
        try simp only [List.getElem_toArray, List.getElem_cons_succ, List.getElem_cons_zero, Act.put, List.setIfInBounds_toArray, List.set_cons_zero, List.set_cons_succ]
        refine wpAnyH_take (i := 13) (v := ?_) rfl (by kernel_rfl) (by kernel_rfl) (by kernel_rfl) (fun _ _ _ h => h) (Or.inl ⟨by rfl, ?_⟩) (by assumption) ?_
        rotate_left
        · (intro w hSw; (try dsimp only at hSw); go_simp; try with_reducible rfl)
        try simp only [List.getElem_toArray, List.getElem_cons_succ, List.getElem_cons_zero, Act.put, List.setIfInBounds_toArray, List.set_cons_zero, List.set_cons_succ]
        refine wpAnyH_take (i := 14) (v := ?_) rfl (by kernel_rfl) (by kernel_rfl) (by kernel_rfl) (fun _ _ _ h => h) (Or.inl ⟨by rfl, ?_⟩) (by assumption) ?_
        rotate_left
        · (intro w hSw; (try dsimp only at hSw); have cc := HCE.out _ (HO9.out.trans hSw); obtain ⟨e0, e1, e2, e3, e4⟩ := cc; go_simp; try with_reducible rfl)
        try simp only [List.getElem_toArray, List.getElem_cons_succ, List.getElem_cons_zero, Act.put, List.setIfInBounds_toArray, List.set_cons_zero, List.set_cons_succ]
        refine wpAnyH_ready (rs := [15]) (by kernel_rfl) (by simp) ?_
        refine (AllReadyH.cons rfl (fun K hK => ?_) AllReadyH.nil)
        go_simp
        (go_at_call 28; (with_reducible refine (HSA.out _).mono ?_); rintro e2 w15 ⟨rfl, ho⟩)
        refine hK.out _ _ (by first | exact hHeld.trans ho | exact hHeld.trans (ho.mono (by simp))) (fun hHeldN => ?_)
        clear hK K ho hHeld
        have hHeld := hHeldN
        clear hHeldN
        try simp only [List.getElem_toArray, List.getElem_cons_succ, List.getElem_cons_zero, Act.put, List.setIfInBounds_toArray, List.set_cons_zero, List.set_cons_succ]
        refine wpAnyH_take (i := 16) (v := ?_) rfl (by kernel_rfl) (by kernel_rfl) (by kernel_rfl) (fun _ _ _ h => h) (Or.inl ⟨by rfl, ?_⟩) (by assumption) ?_
        rotate_left
        · (intro w hSw; (try dsimp only at hSw); go_simp; try with_reducible rfl)
        try simp only [List.getElem_toArray, List.getElem_cons_succ, List.getElem_cons_zero, Act.put, List.setIfInBounds_toArray, List.set_cons_zero, List.set_cons_succ]
        refine wpAnyH_done (by kernel_rfl) ?_ _
        replace HO9 := hide (HO9.out.trans hHeld)
        replace HXB := hide (HXB.out.only hHeld (by simp))
        clear hHeld x0 x1 x2 x3 x4 e0 e1 e2 e3 e4
        have x0 := HXB.out.cell 0; simp at x0
        go_wp2_with fail
        go_roundw
        case rel => exact ⟨k + 1, by omega, by go_num, by rw [HCT.out]; go_num, HO9⟩
        case measure => simp [intOf] <;> omega
      · rw [if_neg h6] at HCT
        have h6b : (a0 == 6) = false := beq_eq_false_iff_ne.2 h6
        clear h6
        refine wp_region_held_drew (S := fun W => Only [] vx W) (by kernel_rfl) (by exact (Only.refl [] vx).drew) (fun hHeld => ?_)
        generalize vx.drew = wd32 at *
        refine wpAnyH_take (i := 0) (v := ?_) rfl (by kernel_rfl) (by kernel_rfl) (by kernel_rfl) (fun _ _ _ h => h) (Or.inl ⟨by rfl, ?_⟩) (by assumption) ?_
        rotate_left
        · (intro w hSw; (try dsimp only at hSw); go_simp; try with_reducible rfl)
        try simp only [List.getElem_toArray, List.getElem_cons_succ, List.getElem_cons_zero, Act.put, List.setIfInBounds_toArray, List.set_cons_zero, List.set_cons_succ]
        refine wpAnyH_take (i := 1) (v := ?_) rfl (by kernel_rfl) (by kernel_rfl) (by kernel_rfl) (fun _ _ _ h => h) (Or.inl ⟨by rfl, ?_⟩) (by assumption) ?_
        rotate_left
        · (intro w hSw; (try dsimp only at hSw); have hXw := HXB.out.only hSw (by simp); have xi := hXw.cell 0; simp at xi; go_simp; try with_reducible rfl)
        try simp only [List.getElem_toArray, List.getElem_cons_succ, List.getElem_cons_zero, Act.put, List.setIfInBounds_toArray, List.set_cons_zero, List.set_cons_succ]
        refine wpAnyH_take (i := 2) (v := ?_) rfl (by kernel_rfl) (by kernel_rfl) (by kernel_rfl) (fun _ _ _ h => h) (Or.inl ⟨by rfl, ?_⟩) (by assumption) ?_
        rotate_left
        · (intro w hSw; (try dsimp only at hSw); go_simp; try with_reducible rfl)
        try simp only [List.getElem_toArray, List.getElem_cons_succ, List.getElem_cons_zero, Act.put, List.setIfInBounds_toArray, List.set_cons_zero, List.set_cons_succ]
        refine wpAnyH_take (i := 3) (v := ?_) rfl (by kernel_rfl) (by kernel_rfl) (by kernel_rfl) (fun _ _ _ h => h) (Or.inl ⟨by rfl, ?_⟩) (by assumption) ?_
        rotate_left
        · (intro w hSw; (try dsimp only at hSw); have hXw := HXB.out.only hSw (by simp); have xi := hXw.cell 1; simp at xi; go_simp; try with_reducible rfl)
        try simp only [List.getElem_toArray, List.getElem_cons_succ, List.getElem_cons_zero, Act.put, List.setIfInBounds_toArray, List.set_cons_zero, List.set_cons_succ]
        refine wpAnyH_take (i := 4) (v := ?_) rfl (by kernel_rfl) (by kernel_rfl) (by kernel_rfl) (fun _ _ _ h => h) (Or.inl ⟨by rfl, ?_⟩) (by assumption) ?_
        rotate_left
        · (intro w hSw; (try dsimp only at hSw); go_simp; try with_reducible rfl)
        try simp only [List.getElem_toArray, List.getElem_cons_succ, List.getElem_cons_zero, Act.put, List.setIfInBounds_toArray, List.set_cons_zero, List.set_cons_succ]
        refine wpAnyH_take (i := 5) (v := ?_) rfl (by kernel_rfl) (by kernel_rfl) (by kernel_rfl) (fun _ _ _ h => h) (Or.inl ⟨by rfl, ?_⟩) (by assumption) ?_
        rotate_left
        · (intro w hSw; (try dsimp only at hSw); have hXw := HXB.out.only hSw (by simp); have xi := hXw.cell 2; simp at xi; go_simp; try with_reducible rfl)
        try simp only [List.getElem_toArray, List.getElem_cons_succ, List.getElem_cons_zero, Act.put, List.setIfInBounds_toArray, List.set_cons_zero, List.set_cons_succ]
        refine wpAnyH_take (i := 6) (v := ?_) rfl (by kernel_rfl) (by kernel_rfl) (by kernel_rfl) (fun _ _ _ h => h) (Or.inl ⟨by rfl, ?_⟩) (by assumption) ?_
        rotate_left
        · (intro w hSw; (try dsimp only at hSw); go_simp; try with_reducible rfl)
        try simp only [List.getElem_toArray, List.getElem_cons_succ, List.getElem_cons_zero, Act.put, List.setIfInBounds_toArray, List.set_cons_zero, List.set_cons_succ]
        refine wpAnyH_take (i := 7) (v := ?_) rfl (by kernel_rfl) (by kernel_rfl) (by kernel_rfl) (fun _ _ _ h => h) (Or.inl ⟨by rfl, ?_⟩) (by assumption) ?_
        rotate_left
        · (intro w hSw; (try dsimp only at hSw); have hXw := HXB.out.only hSw (by simp); have xi := hXw.cell 3; simp at xi; go_simp; try with_reducible rfl)
        try simp only [List.getElem_toArray, List.getElem_cons_succ, List.getElem_cons_zero, Act.put, List.setIfInBounds_toArray, List.set_cons_zero, List.set_cons_succ]
        refine wpAnyH_take (i := 8) (v := ?_) rfl (by kernel_rfl) (by kernel_rfl) (by kernel_rfl) (fun _ _ _ h => h) (Or.inl ⟨by rfl, ?_⟩) (by assumption) ?_
        rotate_left
        · (intro w hSw; (try dsimp only at hSw); go_simp; try with_reducible rfl)
        try simp only [List.getElem_toArray, List.getElem_cons_succ, List.getElem_cons_zero, Act.put, List.setIfInBounds_toArray, List.set_cons_zero, List.set_cons_succ]
        refine wpAnyH_take (i := 9) (v := ?_) rfl (by kernel_rfl) (by kernel_rfl) (by kernel_rfl) (fun _ _ _ h => h) (Or.inl ⟨by rfl, ?_⟩) (by assumption) ?_
        rotate_left
        · (intro w hSw; (try dsimp only at hSw); have hXw := HXB.out.only hSw (by simp); have xi := hXw.cell 4; simp at xi; go_simp; try with_reducible rfl)
        try simp only [List.getElem_toArray, List.getElem_cons_succ, List.getElem_cons_zero, Act.put, List.setIfInBounds_toArray, List.set_cons_zero, List.set_cons_succ]
        refine wpAnyH_take (i := 10) (v := ?_) rfl (by kernel_rfl) (by kernel_rfl) (by kernel_rfl) (fun _ _ _ h => h) (Or.inl ⟨by rfl, ?_⟩) (by assumption) ?_
        rotate_left
        · (intro w hSw; (try dsimp only at hSw); go_simp; try with_reducible rfl)
        try simp only [List.getElem_toArray, List.getElem_cons_succ, List.getElem_cons_zero, Act.put, List.setIfInBounds_toArray, List.set_cons_zero, List.set_cons_succ]
        refine wpAnyH_take (i := 11) (v := ?_) rfl (by kernel_rfl) (by kernel_rfl) (by kernel_rfl) (fun _ _ _ h => h) (Or.inl ⟨by rfl, ?_⟩) (by assumption) ?_
        rotate_left
        · (intro w hSw; (try dsimp only at hSw); go_simp; try with_reducible rfl)
        try simp only [List.getElem_toArray, List.getElem_cons_succ, List.getElem_cons_zero, Act.put, List.setIfInBounds_toArray, List.set_cons_zero, List.set_cons_succ]
        refine wpAnyH_take (i := 12) (v := ?_) rfl (by kernel_rfl) (by kernel_rfl) (by kernel_rfl) (fun _ _ _ h => h) (Or.inl ⟨by rfl, ?_⟩) (by assumption) ?_
        rotate_left
        · (intro w hSw; (try dsimp only at hSw); go_simp; try with_reducible rfl)
        try simp only [List.getElem_toArray, List.getElem_cons_succ, List.getElem_cons_zero, Act.put, List.setIfInBounds_toArray, List.set_cons_zero, List.set_cons_succ]
        refine wpAnyH_take (i := 13) (v := ?_) rfl (by kernel_rfl) (by kernel_rfl) (by kernel_rfl) (fun _ _ _ h => h) (Or.inl ⟨by rfl, ?_⟩) (by assumption) ?_
        rotate_left
        · (intro w hSw; (try dsimp only at hSw); go_simp; try with_reducible rfl)
        try simp only [List.getElem_toArray, List.getElem_cons_succ, List.getElem_cons_zero, Act.put, List.setIfInBounds_toArray, List.set_cons_zero, List.set_cons_succ]
        refine wpAnyH_take (i := 14) (v := ?_) rfl (by kernel_rfl) (by kernel_rfl) (by kernel_rfl) (fun _ _ _ h => h) (Or.inl ⟨by rfl, ?_⟩) (by assumption) ?_
        rotate_left
        · (intro w hSw; (try dsimp only at hSw); have cc := HCE.out _ (HO9.out.trans hSw); obtain ⟨e0, e1, e2, e3, e4⟩ := cc; go_simp; try with_reducible rfl)
        try simp only [List.getElem_toArray, List.getElem_cons_succ, List.getElem_cons_zero, Act.put, List.setIfInBounds_toArray, List.set_cons_zero, List.set_cons_succ]
        refine wpAnyH_ready (rs := [15]) (by kernel_rfl) (by simp) ?_
        refine (AllReadyH.cons rfl (fun K hK => ?_) AllReadyH.nil)
        go_simp
        (go_at_call 28; (with_reducible refine (HSA.out _).mono ?_); rintro e2 w15 ⟨rfl, ho⟩)
        refine hK.out _ _ (by first | exact hHeld.trans ho | exact hHeld.trans (ho.mono (by simp))) (fun hHeldN => ?_)
        clear hK K ho hHeld
        have hHeld := hHeldN
        clear hHeldN
        try simp only [List.getElem_toArray, List.getElem_cons_succ, List.getElem_cons_zero, Act.put, List.setIfInBounds_toArray, List.set_cons_zero, List.set_cons_succ]
        refine wpAnyH_take (i := 16) (v := ?_) rfl (by kernel_rfl) (by kernel_rfl) (by kernel_rfl) (fun _ _ _ h => h) (Or.inl ⟨by rfl, ?_⟩) (by assumption) ?_
        rotate_left
        · (intro w hSw; (try dsimp only at hSw); go_simp; try with_reducible rfl)
        try simp only [List.getElem_toArray, List.getElem_cons_succ, List.getElem_cons_zero, Act.put, List.setIfInBounds_toArray, List.set_cons_zero, List.set_cons_succ]
        refine wpAnyH_done (by kernel_rfl) ?_ _
        replace HO9 := hide (HO9.out.trans hHeld)
        replace HXB := hide (HXB.out.only hHeld (by simp))
        clear hHeld x0 x1 x2 x3 x4 e0 e1 e2 e3 e4
        have x0 := HXB.out.cell 0; simp at x0
        go_wp2_with fail
        go_roundw
        case rel => exact ⟨k + 1, by omega, by go_num, by rw [HCT.out]; go_num, HO9⟩
        case measure => simp [intOf] <;> omega
    · have hlt' : ¬ (k : Int) < q := by omega
      obtain rfl : q = k := by omega
      have HE := hide (show cntM (L.take q) = cn by rw [HCN.out, HLQ.out, List.take_length])
      rw [HE.out]
      go_wp2_with fail
      go_ret
      exact ⟨rfl, HO.out.trans ho.out⟩
end
end Go.Proofs.Yteoifokmbkpbnaa

/-
  Walks and plain words (texts Tx9). No condition beyond those that each theorem states.
-/
import Derived.Test.YtokaobilphfdoaaQ15
namespace Go.Proofs.Ytokaobilphfdoaa
section
open Go.RowKit Go.Deep

set_option maxRecDepth 100000 in
set_option maxHeartbeats 25600000 in
theorem acts_walk (lv va : Value) (l : List Ac) (al : List UInt8) (w : World) (hl : ActsRd w lv l) (ha : Rd w [] va (ints .u8 (byts al))) (h60 : l.length ≤ 60) (h40 : al.length ≤ 40) :
    Calls Try.prog 3 #[lv, va] w fun e w' => e = .returned (.bool true) ∧ Only [] w w' := by
  obtain ⟨Al, cl, rfl, _, _⟩ := hl.1.form
  obtain ⟨Aa, ca, rfl, _, _⟩ := ha.formb
  have HRD := hide hl.1
  have HOK := hide hl.2
  have HVA := hide ha
  obtain ⟨n, hn⟩ : ∃ n, n = l.length := ⟨_, rfl⟩
  rw [← hn] at HRD h60 ⊢
  have HN := hide hn
  have h60I : ¬ (60 : Int) < (n : Int) := by omega
  have h60b : decide ((60 : Int) < (n : Int)) = false := by rw [decide_eq_false_iff_not]; omega
  have h40b : decide ((40 : Int) < (al.length : Int)) = false := by rw [decide_eq_false_iff_not]; omega
  clear hl ha hn h40
  go_enter Try.func3, Try.ntmps3
  go_wp2_with (first
    | (go_at_call 4; refine (awake08 _).mono ?_; rintro e w1 ⟨rfl, ho⟩; have HO := hide ho; clear ho)
    | (go_at_call 5; refine (both_new (w0 := w) (W := w1)).mono ?_; rintro e w2 ⟨rfl, hb, ho⟩; have HTB := hide hb; have HT1 := hide HO.out.size; have HO := hide (HO.out.trans ho); clear hb ho))
  obtain ⟨T, hT⟩ : ∃ T, T = w1.heap.size := ⟨_, rfl⟩
  rw [← hT] at HTB HT1 ⊢
  clear hT
  have HO3 := hide (HO.out.alloc (.cells #[] 57))
  have HB0 := hide (show Both w T (w2.alloc (.cells #[] 57)) [] (.slice (some ⟨w2.heap.size, 0, none⟩) 0 0) [] from ⟨[T], HTB.out.only ((Only.refl [] w2).alloc _) (by simp), ⟨[], rfl, ⟨_, 0, rfl, Nat.le_refl _, Nat.zero_le _, .inl rfl⟩, by simp⟩, fun g hg => by simp at hg; rw [hg]; exact HT1.out⟩)
  generalize w2.alloc (.cells #[] 57) = w3 at *
  generalize w2.heap.size = G2 at *
  clear HTB HT1 HO
  go_loopw [6, 7] (fun mv i wr => ∃ k : Nat, k ≤ n ∧ i = .int .i64 k ∧ (∃ m, Hid (Both w T wr m mv m) ∧ m.length ≤ k) ∧ Hid (Only [] w wr)) (fun _ i _ => n - (intOf i).toNat)
  case atStart => exact ⟨0, Nat.zero_le _, rfl, ⟨[], HB0, Nat.le_refl _⟩, HO3⟩
  case round =>
    obtain ⟨k, hk, rfl, ⟨m, HB, hmk⟩, HX⟩ := hrel
    obtain ⟨Am, cm, hmv⟩ := HB.out.form
    obtain ⟨nm, hnm⟩ : ∃ nm, nm = m.length := ⟨_, rfl⟩
    rw [← hnm] at hmv
    subst hmv
    have HNM := hide hnm
    clear hnm
    by_cases hlt : k < n
    · have hltI : (k : Int) < (n : Int) := by omega
      obtain ⟨a, ha⟩ : ∃ a, l[k]? = some a := ⟨_, List.getElem?_eq_getElem (by rw [← HN.out]; exact hlt)⟩
      obtain ⟨g, o, rfl, _, hgl⟩ := HRD.out.addr (by rw [← HN.out]; omega)
      obtain ⟨hkd, hpv⟩ := HOK.out a (List.mem_of_getElem? ha)
      obtain ⟨av, kd, ⟨pl, pb⟩, ox⟩ := a
      simp only at hkd hpv
      obtain ⟨Ap, cp, rfl, _, _⟩ := hpv.formb
      have HPV := hide hpv
      have HLM := hide (show m.length ≤ 1000 from by omega)
      have HCELL := hide (fun W (h : Only [] w W) (j : Nat) (u : Value) (hu : (acC8 (.slice Ap pl.length cp, kd, (pl, pb), ox))[j]? = some u) => (HRD.out.only h (by simp)).cell ha hu)
      have c0 := HCELL.out _ HX.out 0 _ rfl
      have c1 := HCELL.out _ HX.out 1 _ rfl
      have c2 := HCELL.out _ HX.out 2 _ rfl
      have c3 := HCELL.out _ HX.out 3 _ rfl
      rw [Nat.add_zero] at c0
      rw [← Nat.add_assoc] at c1 c2 c3
      have HBP := hide (Blk.new wr 29 #[.slice Ap pl.length cp, .int .i64 pb])
      have HXR := hide ((Only.refl [] wr).alloc (.cells #[.slice Ap pl.length cp, .int .i64 pb] 29))
      have HPGE := hide (Nat.le_refl wr.heap.size)
      clear hpv ha hgl
      have HXW := hide (HX.out.trans HXR.out)
      go_upto_region 11 with (fail)
      clear c0 c1 c2 c3
      replace HX := HXW
      clear HXW
      obtain ⟨P, hP⟩ : ∃ P, P = wr.heap.size := ⟨_, rfl⟩
      generalize wr.alloc (.cells #[.slice Ap pl.length cp, .int .i64 pb] 29) = w4 at *
      have HPGE := hide (show wr.heap.size ≤ P from by rw [hP]; exact Nat.le_refl _)
      rw [← hP] at HBP ⊢
      clear hP
      have c0 := HCELL.out _ HX.out 0 _ rfl
      have c3 := HCELL.out _ HX.out 3 _ rfl
      rw [Nat.add_zero] at c0
      rw [← Nat.add_assoc] at c3
      have p0 := HBP.out.cell 0
      have p1 := HBP.out.cell 1
      simp at p0 p1
      by_cases hp40 : pl.length ≤ 40
      · have hp40I : ¬ (40 : Int) < (pl.length : Int) := by omega
        have HPL := hide (show pl.length ≤ 1000 from by omega)
        by_cases hk012 : kd = 0 ∨ kd = 1 ∨ kd = 2
        · cases hrt : rightV pl pb with
          | false =>
            have HRT := hide (show rightN pl.length pb = false from hrt)
            clear hrt hp40
            rcases hk012 with rfl | rfl | rfl
            all_goals
              go_upto_region 17 with (first
                | (go_at_call 6; refine (refright_any _ _ _ _ false HRT.out _).mono ?_; rintro e wa ⟨rfl, ho⟩; have HX := hide (HX.out.trans ho); have HXR := hide (HXR.out.trans ho); have HBP := hide (HBP.out.only ho (by simp)); have c0 := HCELL.out _ HX.out 0 _ rfl; have c3 := HCELL.out _ HX.out 3 _ rfl; rw [Nat.add_zero] at c0; rw [← Nat.add_assoc] at c3; have p0 := HBP.out.cell 0; have p1 := HBP.out.cell 1; simp at p0 p1; clear ho))
              refine wp_region_held_drew (S := fun W' => Only [] w W' ∧ W'.cell? ⟨P, 0, none⟩ = some (.slice Ap pl.length cp) ∧ W'.cell? ⟨P, 1, none⟩ = some (.int .i64 pb)) (by kernel_rfl) (by exact ⟨HX.out.drew, p0, p1⟩) (fun hHeld => ?_)
              have HX := hide (show Only [] w wa.drew from HX.out.drew)
              have HXR := hide (show Only [] wr wa.drew from HXR.out.drew)
              have HBP := hide (show Blk wa.drew P 29 #[.slice Ap pl.length cp, .int .i64 pb] from HBP.out.drew)
              generalize wa.drew = wd17 at *
              refine wpAnyH_take (i := 0) (v := ?_) rfl (by kernel_rfl) (by kernel_rfl) (by kernel_rfl) (fun _ _ _ h => h) (Or.inl ⟨by rfl, ?_⟩) (by assumption) ?_
              rotate_left
              · (intro w hSw; (try dsimp only at hSw); go_simp; try with_reducible rfl)
              try simp only [List.getElem_toArray, List.getElem_cons_succ, List.getElem_cons_zero, Act.put, List.setIfInBounds_toArray, List.set_cons_zero, List.set_cons_succ]
              refine wpAnyH_take (i := 1) (v := ?_) rfl (by kernel_rfl) (by kernel_rfl) (by kernel_rfl) (fun _ _ _ h => h) (Or.inl ⟨by rfl, ?_⟩) (by assumption) ?_
              rotate_left
              · (intro w hSw; (try dsimp only at hSw); obtain ⟨_, q0, q1⟩ := hSw; go_simp; try with_reducible rfl)
              try simp only [List.getElem_toArray, List.getElem_cons_succ, List.getElem_cons_zero, Act.put, List.setIfInBounds_toArray, List.set_cons_zero, List.set_cons_succ]
              refine wpAnyH_take (i := 2) (v := ?_) rfl (by kernel_rfl) (by kernel_rfl) (by kernel_rfl) (fun _ _ _ h => h) (Or.inl ⟨by rfl, ?_⟩) (by assumption) ?_
              rotate_left
              · (intro w hSw; (try dsimp only at hSw); go_simp; try with_reducible rfl)
              try simp only [List.getElem_toArray, List.getElem_cons_succ, List.getElem_cons_zero, Act.put, List.setIfInBounds_toArray, List.set_cons_zero, List.set_cons_succ]
              refine wpAnyH_take (i := 3) (v := ?_) rfl (by kernel_rfl) (by kernel_rfl) (by kernel_rfl) (fun _ _ _ h => h) (Or.inl ⟨by rfl, ?_⟩) (by assumption) ?_
              rotate_left
              · (intro w hSw; (try dsimp only at hSw); go_simp; try with_reducible rfl)
              try simp only [List.getElem_toArray, List.getElem_cons_succ, List.getElem_cons_zero, Act.put, List.setIfInBounds_toArray, List.set_cons_zero, List.set_cons_succ]
              refine wpAnyH_take (i := 4) (v := ?_) rfl (by kernel_rfl) (by kernel_rfl) (by kernel_rfl) (fun _ _ _ h => h) (Or.inl ⟨by rfl, ?_⟩) (by assumption) ?_
              rotate_left
              · (intro w hSw; (try dsimp only at hSw); go_simp; try with_reducible rfl)
              try simp only [List.getElem_toArray, List.getElem_cons_succ, List.getElem_cons_zero, Act.put, List.setIfInBounds_toArray, List.set_cons_zero, List.set_cons_succ]
              refine wpAnyH_take (i := 5) (v := ?_) rfl (by kernel_rfl) (by kernel_rfl) (by kernel_rfl) (fun _ _ _ h => h) (Or.inl ⟨by rfl, ?_⟩) (by assumption) ?_
              rotate_left
              · (intro w hSw; (try dsimp only at hSw); go_simp; try with_reducible rfl)
              try simp only [List.getElem_toArray, List.getElem_cons_succ, List.getElem_cons_zero, Act.put, List.setIfInBounds_toArray, List.set_cons_zero, List.set_cons_succ]
              refine wpAnyH_take (i := 6) (v := ?_) rfl (by kernel_rfl) (by kernel_rfl) (by kernel_rfl) (fun _ _ _ h => h) (Or.inl ⟨by rfl, ?_⟩) (by assumption) ?_
              rotate_left
              · (intro w hSw; (try dsimp only at hSw); have f3 := HCELL.out _ hSw.1 3 _ rfl; rw [← Nat.add_assoc] at f3; go_simp; try with_reducible rfl)
              try simp only [List.getElem_toArray, List.getElem_cons_succ, List.getElem_cons_zero, Act.put, List.setIfInBounds_toArray, List.set_cons_zero, List.set_cons_succ]
              refine wpAnyH_ready (rs := [7]) (by kernel_rfl) (by simp) ?_
              refine (AllReadyH.cons rfl (fun K hK => ?_) AllReadyH.nil)
              go_simp
              (go_at_call 7; refine (put_form T _ _ _ _ _ _ HRT.out).mono ?_; rintro e wb ⟨rfl, ho⟩; have HX := hide (HX.out.trans ho); have HXR := hide (HXR.out.trans ho); have HBP := hide (HBP.out.only ho (by simp)); have c0 := HCELL.out _ HX.out 0 _ rfl; have c3 := HCELL.out _ HX.out 3 _ rfl; rw [Nat.add_zero] at c0; rw [← Nat.add_assoc] at c3; have p0 := HBP.out.cell 0; have p1 := HBP.out.cell 1; simp at p0 p1; clear ho)
              have HB2 := hide (HB.out.only HXR.out); have HL2 := HLM
              refine hK.out _ _ (by exact ⟨HX.out, p0, p1⟩) (fun hHeldN => ?_)
              clear hK K hHeld
              have hHeld := hHeldN
              clear hHeldN
              try simp only [List.getElem_toArray, List.getElem_cons_succ, List.getElem_cons_zero, Act.put, List.setIfInBounds_toArray, List.set_cons_zero, List.set_cons_succ]
              refine wpAnyH_take (i := 8) (v := ?_) rfl (by kernel_rfl) (by kernel_rfl) (by kernel_rfl) (fun _ _ _ h => h) (Or.inl ⟨by rfl, ?_⟩) (by assumption) ?_
              rotate_left
              · (intro w hSw; (try dsimp only at hSw); go_simp; try with_reducible rfl)
              try simp only [List.getElem_toArray, List.getElem_cons_succ, List.getElem_cons_zero, Act.put, List.setIfInBounds_toArray, List.set_cons_zero, List.set_cons_succ]
              refine wpAnyH_done (by kernel_rfl) ?_ _
              go_upto_region 38 with (fail)
              obtain ⟨r1, r2, hR⟩ : ∃ r1 r2, ownR m pl = (r1, r2) := ⟨_, _, rfl⟩
              have HR := hide hR
              have hr1 : (r1 != r1) = false := by rw [bne_eq_false_iff_eq]
              have hr2 : (r2 != r2) = false := by rw [bne_eq_false_iff_eq]
              clear hR
              go_wp2_with (first
                | (go_at_call 14; refine (owner_both HB2.out (HPV.out.only HX.out (by simp))).mono ?_; rw [HR.out]; rintro e wo ⟨rfl, ho⟩; have HB2 := hide (HB2.out.only ho); have HX := hide (HX.out.trans ho); have HXR := hide (HXR.out.trans ho); have HBP := hide (HBP.out.only ho (by simp)); have c0 := HCELL.out _ HX.out 0 _ rfl; have c3 := HCELL.out _ HX.out 3 _ rfl; rw [Nat.add_zero] at c0; rw [← Nat.add_assoc] at c3; have p0 := HBP.out.cell 0; have p1 := HBP.out.cell 1; simp at p0 p1; clear ho)
                | (go_at_call 15; refine (refowner_both HL2.out HB2.out (HPV.out.only HX.out (by simp))).mono ?_; rw [HR.out]; rintro e wp ⟨rfl, ho⟩; have HB2 := hide (HB2.out.only ho); have HX := hide (HX.out.trans ho); have HXR := hide (HXR.out.trans ho); have HBP := hide (HBP.out.only ho (by simp)); have c0 := HCELL.out _ HX.out 0 _ rfl; have c3 := HCELL.out _ HX.out 3 _ rfl; rw [Nat.add_zero] at c0; rw [← Nat.add_assoc] at c3; have p0 := HBP.out.cell 0; have p1 := HBP.out.cell 1; simp at p0 p1; clear ho))
              go_roundw
              case rel => exact ⟨k + 1, by omega, by go_num, ⟨m, HB2, by omega⟩, HX⟩
              case measure => simp [intOf]; omega

          | true =>
            have HRT := hide (show rightN pl.length pb = true from hrt)
            have HRV := hide hrt
            obtain ⟨pbn, hpb, hpb8, _⟩ := right_nat2 hrt
            subst hpb
            have HPB := hide hpb8
            clear hrt hp40 hpb8
            by_cases hox : ox < 0
            · have HOX := hide hox
              rcases hk012 with rfl | rfl | rfl
              all_goals
                go_upto_region 17 with (first
                  | (go_at_call 6; refine (refright_any _ _ _ _ true HRT.out _).mono ?_; rintro e wa ⟨rfl, ho⟩; have HX := hide (HX.out.trans ho); have HXR := hide (HXR.out.trans ho); have HBP := hide (HBP.out.only ho (by simp)); have c0 := HCELL.out _ HX.out 0 _ rfl; have c3 := HCELL.out _ HX.out 3 _ rfl; rw [Nat.add_zero] at c0; rw [← Nat.add_assoc] at c3; have p0 := HBP.out.cell 0; have p1 := HBP.out.cell 1; simp at p0 p1; clear ho))
                refine wp_region_held_drew (S := fun W' => Only [] w W' ∧ W'.cell? ⟨P, 0, none⟩ = some (.slice Ap pl.length cp) ∧ W'.cell? ⟨P, 1, none⟩ = some (.int .i64 (pbn : Int))) (by kernel_rfl) (by exact ⟨HX.out.drew, p0, p1⟩) (fun hHeld => ?_)
                have HX := hide (show Only [] w wa.drew from HX.out.drew)
                have HXR := hide (show Only [] wr wa.drew from HXR.out.drew)
                have HBP := hide (show Blk wa.drew P 29 #[.slice Ap pl.length cp, .int .i64 (pbn : Int)] from HBP.out.drew)
                generalize wa.drew = wd17 at *
                refine wpAnyH_take (i := 0) (v := ?_) rfl (by kernel_rfl) (by kernel_rfl) (by kernel_rfl) (fun _ _ _ h => h) (Or.inl ⟨by rfl, ?_⟩) (by assumption) ?_
                rotate_left
                · (intro w hSw; (try dsimp only at hSw); go_simp; try with_reducible rfl)
                try simp only [List.getElem_toArray, List.getElem_cons_succ, List.getElem_cons_zero, Act.put, List.setIfInBounds_toArray, List.set_cons_zero, List.set_cons_succ]
                refine wpAnyH_take (i := 1) (v := ?_) rfl (by kernel_rfl) (by kernel_rfl) (by kernel_rfl) (fun _ _ _ h => h) (Or.inl ⟨by rfl, ?_⟩) (by assumption) ?_
                rotate_left
                · (intro w hSw; (try dsimp only at hSw); obtain ⟨_, q0, q1⟩ := hSw; go_simp; try with_reducible rfl)
                try simp only [List.getElem_toArray, List.getElem_cons_succ, List.getElem_cons_zero, Act.put, List.setIfInBounds_toArray, List.set_cons_zero, List.set_cons_succ]
                refine wpAnyH_take (i := 2) (v := ?_) rfl (by kernel_rfl) (by kernel_rfl) (by kernel_rfl) (fun _ _ _ h => h) (Or.inl ⟨by rfl, ?_⟩) (by assumption) ?_
                rotate_left
                · (intro w hSw; (try dsimp only at hSw); go_simp; try with_reducible rfl)
                try simp only [List.getElem_toArray, List.getElem_cons_succ, List.getElem_cons_zero, Act.put, List.setIfInBounds_toArray, List.set_cons_zero, List.set_cons_succ]
                refine wpAnyH_take (i := 3) (v := ?_) rfl (by kernel_rfl) (by kernel_rfl) (by kernel_rfl) (fun _ _ _ h => h) (Or.inl ⟨by rfl, ?_⟩) (by assumption) ?_
                rotate_left
                · (intro w hSw; (try dsimp only at hSw); go_simp; try with_reducible rfl)
                try simp only [List.getElem_toArray, List.getElem_cons_succ, List.getElem_cons_zero, Act.put, List.setIfInBounds_toArray, List.set_cons_zero, List.set_cons_succ]
                refine wpAnyH_take (i := 4) (v := ?_) rfl (by kernel_rfl) (by kernel_rfl) (by kernel_rfl) (fun _ _ _ h => h) (Or.inl ⟨by rfl, ?_⟩) (by assumption) ?_
                rotate_left
                · (intro w hSw; (try dsimp only at hSw); go_simp; try with_reducible rfl)
                try simp only [List.getElem_toArray, List.getElem_cons_succ, List.getElem_cons_zero, Act.put, List.setIfInBounds_toArray, List.set_cons_zero, List.set_cons_succ]
                refine wpAnyH_take (i := 5) (v := ?_) rfl (by kernel_rfl) (by kernel_rfl) (by kernel_rfl) (fun _ _ _ h => h) (Or.inl ⟨by rfl, ?_⟩) (by assumption) ?_
                rotate_left
                · (intro w hSw; (try dsimp only at hSw); go_simp; try with_reducible rfl)
                try simp only [List.getElem_toArray, List.getElem_cons_succ, List.getElem_cons_zero, Act.put, List.setIfInBounds_toArray, List.set_cons_zero, List.set_cons_succ]
                refine wpAnyH_take (i := 6) (v := ?_) rfl (by kernel_rfl) (by kernel_rfl) (by kernel_rfl) (fun _ _ _ h => h) (Or.inl ⟨by rfl, ?_⟩) (by assumption) ?_
                rotate_left
                · (intro w hSw; (try dsimp only at hSw); have f3 := HCELL.out _ hSw.1 3 _ rfl; rw [← Nat.add_assoc] at f3; go_simp; try with_reducible rfl)
                try simp only [List.getElem_toArray, List.getElem_cons_succ, List.getElem_cons_zero, Act.put, List.setIfInBounds_toArray, List.set_cons_zero, List.set_cons_succ]
                refine wpAnyH_ready (rs := [7]) (by kernel_rfl) (by simp) ?_
                refine (AllReadyH.cons rfl (fun K hK => ?_) AllReadyH.nil)
                go_simp
                (go_at_call 7; refine (put_arg T _ _ _ _ _ _ HRT.out HOX.out).mono ?_; rintro e wb ⟨rfl, ho⟩; have HX := hide (HX.out.trans ho); have HXR := hide (HXR.out.trans ho); have HBP := hide (HBP.out.only ho (by simp)); have c0 := HCELL.out _ HX.out 0 _ rfl; have c3 := HCELL.out _ HX.out 3 _ rfl; rw [Nat.add_zero] at c0; rw [← Nat.add_assoc] at c3; have p0 := HBP.out.cell 0; have p1 := HBP.out.cell 1; simp at p0 p1; clear ho)
                have HB2 := hide (HB.out.only HXR.out); have HL2 := HLM
                refine hK.out _ _ (by exact ⟨HX.out, p0, p1⟩) (fun hHeldN => ?_)
                clear hK K hHeld
                have hHeld := hHeldN
                clear hHeldN
                try simp only [List.getElem_toArray, List.getElem_cons_succ, List.getElem_cons_zero, Act.put, List.setIfInBounds_toArray, List.set_cons_zero, List.set_cons_succ]
                refine wpAnyH_take (i := 8) (v := ?_) rfl (by kernel_rfl) (by kernel_rfl) (by kernel_rfl) (fun _ _ _ h => h) (Or.inl ⟨by rfl, ?_⟩) (by assumption) ?_
                rotate_left
                · (intro w hSw; (try dsimp only at hSw); go_simp; try with_reducible rfl)
                try simp only [List.getElem_toArray, List.getElem_cons_succ, List.getElem_cons_zero, Act.put, List.setIfInBounds_toArray, List.set_cons_zero, List.set_cons_succ]
                refine wpAnyH_done (by kernel_rfl) ?_ _
                go_upto_region 38 with (fail)
                obtain ⟨r1, r2, hR⟩ : ∃ r1 r2, ownR m pl = (r1, r2) := ⟨_, _, rfl⟩
                have HR := hide hR
                have hr1 : (r1 != r1) = false := by rw [bne_eq_false_iff_eq]
                have hr2 : (r2 != r2) = false := by rw [bne_eq_false_iff_eq]
                clear hR
                go_wp2_with (first
                  | (go_at_call 14; refine (owner_both HB2.out (HPV.out.only HX.out (by simp))).mono ?_; rw [HR.out]; rintro e wo ⟨rfl, ho⟩; have HB2 := hide (HB2.out.only ho); have HX := hide (HX.out.trans ho); have HXR := hide (HXR.out.trans ho); have HBP := hide (HBP.out.only ho (by simp)); have c0 := HCELL.out _ HX.out 0 _ rfl; have c3 := HCELL.out _ HX.out 3 _ rfl; rw [Nat.add_zero] at c0; rw [← Nat.add_assoc] at c3; have p0 := HBP.out.cell 0; have p1 := HBP.out.cell 1; simp at p0 p1; clear ho)
                  | (go_at_call 15; refine (refowner_both HL2.out HB2.out (HPV.out.only HX.out (by simp))).mono ?_; rw [HR.out]; rintro e wp ⟨rfl, ho⟩; have HB2 := hide (HB2.out.only ho); have HX := hide (HX.out.trans ho); have HXR := hide (HXR.out.trans ho); have HBP := hide (HBP.out.only ho (by simp)); have c0 := HCELL.out _ HX.out 0 _ rfl; have c3 := HCELL.out _ HX.out 3 _ rfl; rw [Nat.add_zero] at c0; rw [← Nat.add_assoc] at c3; have p0 := HBP.out.cell 0; have p1 := HBP.out.cell 1; simp at p0 p1; clear ho))
                go_roundw
                case rel => exact ⟨k + 1, by omega, by go_num, ⟨m, HB2, by omega⟩, HX⟩
                case measure => simp [intOf]; omega

            · have HOX := hide (show 0 ≤ ox from by omega)
              rcases hk012 with rfl | rfl | rfl
              all_goals
                go_upto_region 17 with (first
                  | (go_at_call 6; refine (refright_any _ _ _ _ true HRT.out _).mono ?_; rintro e wa ⟨rfl, ho⟩; have HX := hide (HX.out.trans ho); have HXR := hide (HXR.out.trans ho); have HBP := hide (HBP.out.only ho (by simp)); have c0 := HCELL.out _ HX.out 0 _ rfl; have c3 := HCELL.out _ HX.out 3 _ rfl; rw [Nat.add_zero] at c0; rw [← Nat.add_assoc] at c3; have p0 := HBP.out.cell 0; have p1 := HBP.out.cell 1; simp at p0 p1; clear ho))
                refine wp_region_held_drew (S := fun W' => Only [] w W' ∧ W'.cell? ⟨P, 0, none⟩ = some (.slice Ap pl.length cp) ∧ W'.cell? ⟨P, 1, none⟩ = some (.int .i64 (pbn : Int))) (by kernel_rfl) (by exact ⟨HX.out.drew, p0, p1⟩) (fun hHeld => ?_)
                have HX := hide (show Only [] w wa.drew from HX.out.drew)
                have HXR := hide (show Only [] wr wa.drew from HXR.out.drew)
                have HBP := hide (show Blk wa.drew P 29 #[.slice Ap pl.length cp, .int .i64 (pbn : Int)] from HBP.out.drew)
                generalize wa.drew = wd17 at *
                refine wpAnyH_take (i := 0) (v := ?_) rfl (by kernel_rfl) (by kernel_rfl) (by kernel_rfl) (fun _ _ _ h => h) (Or.inl ⟨by rfl, ?_⟩) (by assumption) ?_
                rotate_left
                · (intro w hSw; (try dsimp only at hSw); go_simp; try with_reducible rfl)
                try simp only [List.getElem_toArray, List.getElem_cons_succ, List.getElem_cons_zero, Act.put, List.setIfInBounds_toArray, List.set_cons_zero, List.set_cons_succ]
                refine wpAnyH_take (i := 1) (v := ?_) rfl (by kernel_rfl) (by kernel_rfl) (by kernel_rfl) (fun _ _ _ h => h) (Or.inl ⟨by rfl, ?_⟩) (by assumption) ?_
                rotate_left
                · (intro w hSw; (try dsimp only at hSw); obtain ⟨_, q0, q1⟩ := hSw; go_simp; try with_reducible rfl)
                try simp only [List.getElem_toArray, List.getElem_cons_succ, List.getElem_cons_zero, Act.put, List.setIfInBounds_toArray, List.set_cons_zero, List.set_cons_succ]
                refine wpAnyH_take (i := 2) (v := ?_) rfl (by kernel_rfl) (by kernel_rfl) (by kernel_rfl) (fun _ _ _ h => h) (Or.inl ⟨by rfl, ?_⟩) (by assumption) ?_
                rotate_left
                · (intro w hSw; (try dsimp only at hSw); go_simp; try with_reducible rfl)
                try simp only [List.getElem_toArray, List.getElem_cons_succ, List.getElem_cons_zero, Act.put, List.setIfInBounds_toArray, List.set_cons_zero, List.set_cons_succ]
                refine wpAnyH_take (i := 3) (v := ?_) rfl (by kernel_rfl) (by kernel_rfl) (by kernel_rfl) (fun _ _ _ h => h) (Or.inl ⟨by rfl, ?_⟩) (by assumption) ?_
                rotate_left
                · (intro w hSw; (try dsimp only at hSw); go_simp; try with_reducible rfl)
                try simp only [List.getElem_toArray, List.getElem_cons_succ, List.getElem_cons_zero, Act.put, List.setIfInBounds_toArray, List.set_cons_zero, List.set_cons_succ]
                refine wpAnyH_take (i := 4) (v := ?_) rfl (by kernel_rfl) (by kernel_rfl) (by kernel_rfl) (fun _ _ _ h => h) (Or.inl ⟨by rfl, ?_⟩) (by assumption) ?_
                rotate_left
                · (intro w hSw; (try dsimp only at hSw); go_simp; try with_reducible rfl)
                try simp only [List.getElem_toArray, List.getElem_cons_succ, List.getElem_cons_zero, Act.put, List.setIfInBounds_toArray, List.set_cons_zero, List.set_cons_succ]
                refine wpAnyH_take (i := 5) (v := ?_) rfl (by kernel_rfl) (by kernel_rfl) (by kernel_rfl) (fun _ _ _ h => h) (Or.inl ⟨by rfl, ?_⟩) (by assumption) ?_
                rotate_left
                · (intro w hSw; (try dsimp only at hSw); go_simp; try with_reducible rfl)
                try simp only [List.getElem_toArray, List.getElem_cons_succ, List.getElem_cons_zero, Act.put, List.setIfInBounds_toArray, List.set_cons_zero, List.set_cons_succ]
                refine wpAnyH_take (i := 6) (v := ?_) rfl (by kernel_rfl) (by kernel_rfl) (by kernel_rfl) (fun _ _ _ h => h) (Or.inl ⟨by rfl, ?_⟩) (by assumption) ?_
                rotate_left
                · (intro w hSw; (try dsimp only at hSw); have f3 := HCELL.out _ hSw.1 3 _ rfl; rw [← Nat.add_assoc] at f3; go_simp; try with_reducible rfl)
                try simp only [List.getElem_toArray, List.getElem_cons_succ, List.getElem_cons_zero, Act.put, List.setIfInBounds_toArray, List.set_cons_zero, List.set_cons_succ]
                refine wpAnyH_ready (rs := [7]) (by kernel_rfl) (by simp) ?_
                refine (AllReadyH.cons rfl (fun K hK => ?_) AllReadyH.nil)
                go_simp
                (go_at_call 7; refine (put_both HRV.out HOX.out HB.out HXR.out HX.out HPV.out).mono ?_; rintro e wb ⟨rfl, hb2, ho, hkeep⟩; have HB2 := hide hb2; have HBP := hide (hkeep P _ _ HPGE.out HBP.out); have HX := hide ho; have c0 := HCELL.out _ HX.out 0 _ rfl; have c3 := HCELL.out _ HX.out 3 _ rfl; rw [Nat.add_zero] at c0; rw [← Nat.add_assoc] at c3; have p0 := HBP.out.cell 0; have p1 := HBP.out.cell 1; simp at p0 p1; clear hb2 ho hkeep)
                refine hK.out _ _ (by exact ⟨HX.out, p0, p1⟩) (fun hHeldN => ?_)
                clear hK K hHeld
                have hHeld := hHeldN
                clear hHeldN
                try simp only [List.getElem_toArray, List.getElem_cons_succ, List.getElem_cons_zero, Act.put, List.setIfInBounds_toArray, List.set_cons_zero, List.set_cons_succ]
                refine wpAnyH_take (i := 8) (v := ?_) rfl (by kernel_rfl) (by kernel_rfl) (by kernel_rfl) (fun _ _ _ h => h) (Or.inl ⟨by rfl, ?_⟩) (by assumption) ?_
                rotate_left
                · (intro w hSw; (try dsimp only at hSw); go_simp; try with_reducible rfl)
                try simp only [List.getElem_toArray, List.getElem_cons_succ, List.getElem_cons_zero, Act.put, List.setIfInBounds_toArray, List.set_cons_zero, List.set_cons_succ]
                refine wpAnyH_done (by kernel_rfl) ?_ _
                go_upto_region 26 with (fail)
                refine wp_region_held_drew (S := fun W' => Only [] w W' ∧ W'.cell? ⟨P, 0, none⟩ = some (.slice Ap pl.length cp) ∧ W'.cell? ⟨P, 1, none⟩ = some (.int .i64 (pbn : Int))) (by kernel_rfl) (by exact ⟨HX.out.drew, p0, p1⟩) (fun hHeld => ?_)
                have HX := hide (show Only [] w wb.drew from HX.out.drew)
                have HBP := hide (show Blk wb.drew P 29 #[.slice Ap pl.length cp, .int .i64 (pbn : Int)] from HBP.out.drew)
                have HB2 := hide (show Both w T wb.drew _ _ _ from HB2.out.only (Only.refl [] wb).drew)
                have HXR := hide (Only.refl [] wb.drew)
                generalize wb.drew = wd26 at *
                refine wpAnyH_take (i := 0) (v := ?_) rfl (by kernel_rfl) (by kernel_rfl) (by kernel_rfl) (fun _ _ _ h => h) (Or.inl ⟨by rfl, ?_⟩) (by assumption) ?_
                rotate_left
                · (intro w hSw; (try dsimp only at hSw); go_simp; try with_reducible rfl)
                try simp only [List.getElem_toArray, List.getElem_cons_succ, List.getElem_cons_zero, Act.put, List.setIfInBounds_toArray, List.set_cons_zero, List.set_cons_succ]
                refine wpAnyH_take (i := 1) (v := ?_) rfl (by kernel_rfl) (by kernel_rfl) (by kernel_rfl) (fun _ _ _ h => h) (Or.inl ⟨by rfl, ?_⟩) (by assumption) ?_
                rotate_left
                · (intro w hSw; (try dsimp only at hSw); obtain ⟨_, q0, q1⟩ := hSw; go_simp; try with_reducible rfl)
                try simp only [List.getElem_toArray, List.getElem_cons_succ, List.getElem_cons_zero, Act.put, List.setIfInBounds_toArray, List.set_cons_zero, List.set_cons_succ]
                refine wpAnyH_take (i := 3) (v := ?_) rfl (by kernel_rfl) (by kernel_rfl) (by kernel_rfl) (fun _ _ _ h => h) (Or.inl ⟨by rfl, ?_⟩) (by assumption) ?_
                rotate_left
                · (intro w hSw; (try dsimp only at hSw); go_simp; try with_reducible rfl)
                try simp only [List.getElem_toArray, List.getElem_cons_succ, List.getElem_cons_zero, Act.put, List.setIfInBounds_toArray, List.set_cons_zero, List.set_cons_succ]
                refine wpAnyH_take (i := 4) (v := ?_) rfl (by kernel_rfl) (by kernel_rfl) (by kernel_rfl) (fun _ _ _ h => h) (Or.inl ⟨by rfl, ?_⟩) (by assumption) ?_
                rotate_left
                · (intro w hSw; (try dsimp only at hSw); go_simp; try with_reducible rfl)
                try simp only [List.getElem_toArray, List.getElem_cons_succ, List.getElem_cons_zero, Act.put, List.setIfInBounds_toArray, List.set_cons_zero, List.set_cons_succ]
                refine wpAnyH_take (i := 5) (v := ?_) rfl (by kernel_rfl) (by kernel_rfl) (by kernel_rfl) (fun _ _ _ h => h) (Or.inl ⟨by rfl, ?_⟩) (by assumption) ?_
                rotate_left
                · (intro w hSw; (try dsimp only at hSw); go_simp; try with_reducible rfl)
                try simp only [List.getElem_toArray, List.getElem_cons_succ, List.getElem_cons_zero, Act.put, List.setIfInBounds_toArray, List.set_cons_zero, List.set_cons_succ]
                refine wpAnyH_take (i := 6) (v := ?_) rfl (by kernel_rfl) (by kernel_rfl) (by kernel_rfl) (fun _ _ _ h => h) (Or.inl ⟨by rfl, ?_⟩) (by assumption) ?_
                rotate_left
                · (intro w hSw; (try dsimp only at hSw); go_simp; try with_reducible rfl)
                try simp only [List.getElem_toArray, List.getElem_cons_succ, List.getElem_cons_zero, Act.put, List.setIfInBounds_toArray, List.set_cons_zero, List.set_cons_succ]
                refine wpAnyH_take (i := 7) (v := ?_) rfl (by kernel_rfl) (by kernel_rfl) (by kernel_rfl) (fun _ _ _ h => h) (Or.inl ⟨by rfl, ?_⟩) (by assumption) ?_
                rotate_left
                · (intro w hSw; (try dsimp only at hSw); have f3 := HCELL.out _ hSw.1 3 _ rfl; rw [← Nat.add_assoc] at f3; go_simp; try with_reducible rfl)
                try simp only [List.getElem_toArray, List.getElem_cons_succ, List.getElem_cons_zero, Act.put, List.setIfInBounds_toArray, List.set_cons_zero, List.set_cons_succ]
                refine wpAnyH_ready (rs := [2]) (by kernel_rfl) (by simp) ?_
                refine (AllReadyH.cons rfl (fun K hK => ?_) AllReadyH.nil)
                go_simp
                (go_at_call 9; refine (refplain_far _ pl pbn [] wd26 (HPV.out.only HX.out (by simp)) HPB.out HPL.out).mono ?_; rintro e wc ⟨v3, rfl, hv3, ho⟩; have HV3 := hide hv3; obtain ⟨A3, c3v, rfl, _, _⟩ := (hv3 [] (by simp)).formb; have HX := hide (HX.out.trans ho); have HXR := hide (HXR.out.trans ho); have HBP := hide (HBP.out.only ho (by simp)); have c0 := HCELL.out _ HX.out 0 _ rfl; have c3 := HCELL.out _ HX.out 3 _ rfl; rw [Nat.add_zero] at c0; rw [← Nat.add_assoc] at c3; have p0 := HBP.out.cell 0; have p1 := HBP.out.cell 1; simp at p0 p1; clear ho; clear hv3)
                refine hK.out _ _ (by exact ⟨HX.out, p0, p1⟩) (fun hHeldN => ?_)
                clear hK K hHeld
                have hHeld := hHeldN
                clear hHeldN
                try simp only [List.getElem_toArray, List.getElem_cons_succ, List.getElem_cons_zero, Act.put, List.setIfInBounds_toArray, List.set_cons_zero, List.set_cons_succ]
                refine wpAnyH_ready (rs := [8]) (by kernel_rfl) (by simp) ?_
                refine (AllReadyH.cons rfl (fun K hK => ?_) AllReadyH.nil)
                go_simp
                (go_at_call 8; refine (refput_both HLM.out HB2.out HXR.out HV3.out).mono ?_; rintro e we ⟨v4, rfl, hb3, ho⟩; have HB3 := hide hb3; have HX := hide (HX.out.trans ho); have HXR := hide (HXR.out.trans ho); have HBP := hide (HBP.out.only ho (by simp)); have c0 := HCELL.out _ HX.out 0 _ rfl; have c3 := HCELL.out _ HX.out 3 _ rfl; rw [Nat.add_zero] at c0; rw [← Nat.add_assoc] at c3; have p0 := HBP.out.cell 0; have p1 := HBP.out.cell 1; simp at p0 p1; clear ho; clear hb3)
                refine hK.out _ _ (by exact ⟨HX.out, p0, p1⟩) (fun hHeldN => ?_)
                clear hK K hHeld
                have hHeld := hHeldN
                clear hHeldN
                try simp only [List.getElem_toArray, List.getElem_cons_succ, List.getElem_cons_zero, Act.put, List.setIfInBounds_toArray, List.set_cons_zero, List.set_cons_succ]
                refine wpAnyH_take (i := 9) (v := ?_) rfl (by kernel_rfl) (by kernel_rfl) (by kernel_rfl) (fun _ _ _ h => h) (Or.inl ⟨by rfl, ?_⟩) (by assumption) ?_
                rotate_left
                · (intro w hSw; (try dsimp only at hSw); go_simp; try with_reducible rfl)
                try simp only [List.getElem_toArray, List.getElem_cons_succ, List.getElem_cons_zero, Act.put, List.setIfInBounds_toArray, List.set_cons_zero, List.set_cons_succ]
                refine wpAnyH_done (by kernel_rfl) ?_ _
                clear HB2
                have HB2 := HB3
                obtain ⟨Am2, cm2, hv4⟩ := HB2.out.form
                generalize (putV m (plainV pl pbn, pbn) ox).length = nm2 at hv4
                subst hv4
                have HL2 := hide (show (putV m (plainV pl pbn, pbn) ox).length ≤ 1000 from Nat.le_trans put_len (by have := HLM.out; have := hmk; omega))
                go_upto_region 38 with (fail)
                obtain ⟨r1, r2, hR⟩ : ∃ r1 r2, ownR (putV m (plainV pl pbn, pbn) ox) pl = (r1, r2) := ⟨_, _, rfl⟩
                have HR := hide hR
                have hr1 : (r1 != r1) = false := by rw [bne_eq_false_iff_eq]
                have hr2 : (r2 != r2) = false := by rw [bne_eq_false_iff_eq]
                clear hR
                go_wp2_with (first
                  | (go_at_call 14; refine (owner_both HB2.out (HPV.out.only HX.out (by simp))).mono ?_; rw [HR.out]; rintro e wo ⟨rfl, ho⟩; have HB2 := hide (HB2.out.only ho); have HX := hide (HX.out.trans ho); have HXR := hide (HXR.out.trans ho); have HBP := hide (HBP.out.only ho (by simp)); have c0 := HCELL.out _ HX.out 0 _ rfl; have c3 := HCELL.out _ HX.out 3 _ rfl; rw [Nat.add_zero] at c0; rw [← Nat.add_assoc] at c3; have p0 := HBP.out.cell 0; have p1 := HBP.out.cell 1; simp at p0 p1; clear ho)
                  | (go_at_call 15; refine (refowner_both HL2.out HB2.out (HPV.out.only HX.out (by simp))).mono ?_; rw [HR.out]; rintro e wp ⟨rfl, ho⟩; have HB2 := hide (HB2.out.only ho); have HX := hide (HX.out.trans ho); have HXR := hide (HXR.out.trans ho); have HBP := hide (HBP.out.only ho (by simp)); have c0 := HCELL.out _ HX.out 0 _ rfl; have c3 := HCELL.out _ HX.out 3 _ rfl; rw [Nat.add_zero] at c0; rw [← Nat.add_assoc] at c3; have p0 := HBP.out.cell 0; have p1 := HBP.out.cell 1; simp at p0 p1; clear ho))
                go_roundw
                case rel => exact ⟨k + 1, by omega, by go_num, ⟨(putV m (plainV pl pbn, pbn) ox), HB2, by have h := put_len (m := m) (p := (plainV pl pbn, pbn)) (x := ox); omega⟩, HX⟩
                case measure => simp [intOf]; omega

        · obtain ⟨rv, hrv⟩ : ∃ rv, rightN pl.length pb = rv := ⟨_, rfl⟩
          have HRT := hide hrv
          clear hrv hp40
          have k0 : (kd == 0) = false := by rw [beq_eq_false_iff_ne]; exact fun h => hk012 (.inl h)
          have k1 : (kd == 1) = false := by rw [beq_eq_false_iff_ne]; exact fun h => hk012 (.inr (.inl h))
          have k2 : (kd == 2) = false := by rw [beq_eq_false_iff_ne]; exact fun h => hk012 (.inr (.inr h))
          by_cases hk3 : kd = 3
          · subst hk3
            clear k0 k1 k2
            cases hrt : rightV pl pb with
            | false =>
              have HRT2 := hide (show rightN pl.length pb = false from hrt)
              clear hrt HRT
              go_upto_region 38 with (first
                | (go_at_call 6; refine (refright_any _ _ _ _ false HRT2.out _).mono ?_; rintro e wa ⟨rfl, ho⟩; have HX := hide (HX.out.trans ho); have HXR := hide (HXR.out.trans ho); have HBP := hide (HBP.out.only ho (by simp)); have c0 := HCELL.out _ HX.out 0 _ rfl; have c3 := HCELL.out _ HX.out 3 _ rfl; rw [Nat.add_zero] at c0; rw [← Nat.add_assoc] at c3; have p0 := HBP.out.cell 0; have p1 := HBP.out.cell 1; simp at p0 p1; clear ho)
                | (go_at_call 11; refine (del_form T _ _ _ _ _ HRT2.out).mono ?_; rintro e wb ⟨rfl, ho⟩; have HX := hide (HX.out.trans ho); have HXR := hide (HXR.out.trans ho); have HBP := hide (HBP.out.only ho (by simp)); have c0 := HCELL.out _ HX.out 0 _ rfl; have c3 := HCELL.out _ HX.out 3 _ rfl; rw [Nat.add_zero] at c0; rw [← Nat.add_assoc] at c3; have p0 := HBP.out.cell 0; have p1 := HBP.out.cell 1; simp at p0 p1; clear ho))
              have HB2 := hide (HB.out.only HXR.out); have HL2 := HLM
              have HL2 := HLM
              obtain ⟨r1, r2, hR⟩ : ∃ r1 r2, ownR m pl = (r1, r2) := ⟨_, _, rfl⟩
              have HR := hide hR
              have hr1 : (r1 != r1) = false := by rw [bne_eq_false_iff_eq]
              have hr2 : (r2 != r2) = false := by rw [bne_eq_false_iff_eq]
              clear hR
              go_wp2_with (first
                | (go_at_call 14; refine (owner_both HB2.out (HPV.out.only HX.out (by simp))).mono ?_; rw [HR.out]; rintro e wo ⟨rfl, ho⟩; have HB2 := hide (HB2.out.only ho); have HX := hide (HX.out.trans ho); have HXR := hide (HXR.out.trans ho); have HBP := hide (HBP.out.only ho (by simp)); have c0 := HCELL.out _ HX.out 0 _ rfl; have c3 := HCELL.out _ HX.out 3 _ rfl; rw [Nat.add_zero] at c0; rw [← Nat.add_assoc] at c3; have p0 := HBP.out.cell 0; have p1 := HBP.out.cell 1; simp at p0 p1; clear ho)
                | (go_at_call 15; refine (refowner_both HL2.out HB2.out (HPV.out.only HX.out (by simp))).mono ?_; rw [HR.out]; rintro e wp ⟨rfl, ho⟩; have HB2 := hide (HB2.out.only ho); have HX := hide (HX.out.trans ho); have HXR := hide (HXR.out.trans ho); have HBP := hide (HBP.out.only ho (by simp)); have c0 := HCELL.out _ HX.out 0 _ rfl; have c3 := HCELL.out _ HX.out 3 _ rfl; rw [Nat.add_zero] at c0; rw [← Nat.add_assoc] at c3; have p0 := HBP.out.cell 0; have p1 := HBP.out.cell 1; simp at p0 p1; clear ho))
              go_roundw
              case rel => exact ⟨k + 1, by omega, by go_num, ⟨m, HB2, by omega⟩, HX⟩
              case measure => simp [intOf]; omega

            | true =>
              have HRT2 := hide (show rightN pl.length pb = true from hrt)
              have HRV := hide hrt
              obtain ⟨pbn, hpb, hpb8, _⟩ := right_nat2 hrt
              subst hpb
              have HPB := hide hpb8
              have HBB := hide HB.out.bound
              obtain ⟨wv, hwv⟩ : ∃ wv, wasV m (plainV pl pbn, pbn) = wv := ⟨_, rfl⟩
              have HWV := hide hwv
              have hwb : (wv != wv) = false := by rw [bne_eq_false_iff_eq]
              clear hrt HRT hpb8 hwv
              go_upto_region 38 with (first
                | (go_at_call 6; refine (refright_any _ _ _ _ true HRT2.out _).mono ?_; rintro e wa ⟨rfl, ho⟩; have HX := hide (HX.out.trans ho); have HXR := hide (HXR.out.trans ho); have HBP := hide (HBP.out.only ho (by simp)); have c0 := HCELL.out _ HX.out 0 _ rfl; have c3 := HCELL.out _ HX.out 3 _ rfl; rw [Nat.add_zero] at c0; rw [← Nat.add_assoc] at c3; have p0 := HBP.out.cell 0; have p1 := HBP.out.cell 1; simp at p0 p1; clear ho)
                | (go_at_call 9; refine (refplain_far _ pl pbn [] _ (HPV.out.only HX.out (by simp)) HPB.out HPL.out).mono ?_; rintro e wc ⟨v3, rfl, hv3, ho⟩; have HV3 := hide (fun N (hN : ∀ x ∈ N, x < wr.heap.size) => hv3 N (fun x hx => Nat.lt_of_lt_of_le (hN x hx) HXR.out.size)); obtain ⟨A3, c3v, rfl, _, _⟩ := (hv3 [] (by simp)).formb; clear hv3; have HX := hide (HX.out.trans ho); have HXR := hide (HXR.out.trans ho); have HBP := hide (HBP.out.only ho (by simp)); have c0 := HCELL.out _ HX.out 0 _ rfl; have c3 := HCELL.out _ HX.out 3 _ rfl; rw [Nat.add_zero] at c0; rw [← Nat.add_assoc] at c3; have p0 := HBP.out.cell 0; have p1 := HBP.out.cell 1; simp at p0 p1; clear ho)
                | (go_at_call 10; refine (refdel_bound HLM.out HBB.out HXR.out HV3.out).mono ?_; rw [HWV.out]; rintro e we ⟨v4, rfl, hb3, ho⟩; have HB3 := hide hb3; clear hb3; have HX := hide (HX.out.trans ho); have HXR := hide (HXR.out.trans ho); have HBP := hide (HBP.out.only ho (by simp)); have c0 := HCELL.out _ HX.out 0 _ rfl; have c3 := HCELL.out _ HX.out 3 _ rfl; rw [Nat.add_zero] at c0; rw [← Nat.add_assoc] at c3; have p0 := HBP.out.cell 0; have p1 := HBP.out.cell 1; simp at p0 p1; clear ho)
                | (go_at_call 11; refine (del_bound HRV.out HB3.out HX.out HPV.out).mono ?_; rw [HWV.out]; rintro e wb ⟨rfl, hb2, ho, hkeep⟩; have HB2 := hide hb2; have HBP := hide (hkeep P _ _ HPGE.out HBP.out); have HX := hide ho; have HXR := hide (Only.refl [] wb); have c0 := HCELL.out _ HX.out 0 _ rfl; have c3 := HCELL.out _ HX.out 3 _ rfl; rw [Nat.add_zero] at c0; rw [← Nat.add_assoc] at c3; have p0 := HBP.out.cell 0; have p1 := HBP.out.cell 1; simp at p0 p1; clear hb2 ho hkeep))
              have HL2 := hide (show (delV m (plainV pl pbn, pbn)).length ≤ 1000 from Nat.le_trans (delV_len _ _) HLM.out)
              obtain ⟨r1, r2, hR⟩ : ∃ r1 r2, ownR (delV m (plainV pl pbn, pbn)) pl = (r1, r2) := ⟨_, _, rfl⟩
              have HR := hide hR
              have hr1 : (r1 != r1) = false := by rw [bne_eq_false_iff_eq]
              have hr2 : (r2 != r2) = false := by rw [bne_eq_false_iff_eq]
              clear hR
              go_wp2_with (first
                | (go_at_call 14; refine (owner_both HB2.out (HPV.out.only HX.out (by simp))).mono ?_; rw [HR.out]; rintro e wo ⟨rfl, ho⟩; have HB2 := hide (HB2.out.only ho); have HX := hide (HX.out.trans ho); have HXR := hide (HXR.out.trans ho); have HBP := hide (HBP.out.only ho (by simp)); have c0 := HCELL.out _ HX.out 0 _ rfl; have c3 := HCELL.out _ HX.out 3 _ rfl; rw [Nat.add_zero] at c0; rw [← Nat.add_assoc] at c3; have p0 := HBP.out.cell 0; have p1 := HBP.out.cell 1; simp at p0 p1; clear ho)
                | (go_at_call 15; refine (refowner_both HL2.out HB2.out (HPV.out.only HX.out (by simp))).mono ?_; rw [HR.out]; rintro e wp ⟨rfl, ho⟩; have HB2 := hide (HB2.out.only ho); have HX := hide (HX.out.trans ho); have HXR := hide (HXR.out.trans ho); have HBP := hide (HBP.out.only ho (by simp)); have c0 := HCELL.out _ HX.out 0 _ rfl; have c3 := HCELL.out _ HX.out 3 _ rfl; rw [Nat.add_zero] at c0; rw [← Nat.add_assoc] at c3; have p0 := HBP.out.cell 0; have p1 := HBP.out.cell 1; simp at p0 p1; clear ho))
              go_roundw
              case rel => exact ⟨k + 1, by omega, by go_num, ⟨(delV m (plainV pl pbn, pbn)), HB2, by have h := delV_len m (plainV pl pbn, pbn); omega⟩, HX⟩
              case measure => simp [intOf]; omega

          · have k3 : (kd == 3) = false := by rw [beq_eq_false_iff_ne]; exact hk3
            by_cases hk4 : kd = 4
            · subst hk4
              clear k0 k1 k2 k3 hk012 hk3
              obtain ⟨q, hq⟩ : ∃ q, q = (ofV m ox).length := ⟨_, rfl⟩
              obtain ⟨dl, hdl⟩ : ∃ dl, dl = (dropV m ox).length := ⟨_, rfl⟩
              have hsum := of_drop m ox
              rw [← hq, ← hdl, ← HNM.out] at hsum
              have hs : wrap64 ((nm : Int) - (dl : Int)) = (q : Int) := by
                have h1 := HLM.out
                rw [← HNM.out] at h1
                have h2 : ((nm : Int) - (dl : Int)) = (q : Int) := by omega
                rw [h2]
                unfold wrap64
                omega
              have hqb : ((q : Int) != (q : Int)) = false := by rw [bne_eq_false_iff_eq]
              have HQ := hide hq
              have HDL := hide hdl
              clear hq hdl hsum
              go_upto_region 38 with (first
                | (go_at_call 6; refine (refright_any _ _ _ _ rv HRT.out _).mono ?_; rintro e wa ⟨rfl, ho⟩; have HX := hide (HX.out.trans ho); have HXR := hide (HXR.out.trans ho); have HBP := hide (HBP.out.only ho (by simp)); have c0 := HCELL.out _ HX.out 0 _ rfl; have c3 := HCELL.out _ HX.out 3 _ rfl; rw [Nat.add_zero] at c0; rw [← Nat.add_assoc] at c3; have p0 := HBP.out.cell 0; have p1 := HBP.out.cell 1; simp at p0 p1; clear ho)
                | (go_at_call 12; refine (refdrop_bound HLM.out (HB.out.bound.only HXR.out)).mono ?_; rintro e we ⟨v4, rfl, hb3, ho⟩; have HB3 := hide hb3; obtain ⟨A3, c3v, hv4⟩ := hb3.both.form; rw [← HDL.out] at hv4; subst hv4; clear hb3; have HX := hide (HX.out.trans ho); have HXR := hide (HXR.out.trans ho); have HBP := hide (HBP.out.only ho (by simp)); have c0 := HCELL.out _ HX.out 0 _ rfl; have c3 := HCELL.out _ HX.out 3 _ rfl; rw [Nat.add_zero] at c0; rw [← Nat.add_assoc] at c3; have p0 := HBP.out.cell 0; have p1 := HBP.out.cell 1; simp at p0 p1; clear ho)
                | (go_at_call 13; refine (drop_bound HLM.out HB3.out HX.out).mono ?_; rw [← HQ.out]; rintro e wb ⟨rfl, hb2, ho, hkeep⟩; have HB2 := hide hb2; have HBP := hide (hkeep P _ _ HPGE.out HBP.out); have HX := hide ho; have HXR := hide (Only.refl [] wb); have c0 := HCELL.out _ HX.out 0 _ rfl; have c3 := HCELL.out _ HX.out 3 _ rfl; rw [Nat.add_zero] at c0; rw [← Nat.add_assoc] at c3; have p0 := HBP.out.cell 0; have p1 := HBP.out.cell 1; simp at p0 p1; clear hb2 ho hkeep))
              have HL2 := hide (show (dropV m ox).length ≤ 1000 from Nat.le_trans drop_len HLM.out)
              obtain ⟨r1, r2, hR⟩ : ∃ r1 r2, ownR (dropV m ox) pl = (r1, r2) := ⟨_, _, rfl⟩
              have HR := hide hR
              have hr1 : (r1 != r1) = false := by rw [bne_eq_false_iff_eq]
              have hr2 : (r2 != r2) = false := by rw [bne_eq_false_iff_eq]
              clear hR
              go_wp2_with (first
                | (go_at_call 14; refine (owner_both HB2.out (HPV.out.only HX.out (by simp))).mono ?_; rw [HR.out]; rintro e wo ⟨rfl, ho⟩; have HB2 := hide (HB2.out.only ho); have HX := hide (HX.out.trans ho); have HXR := hide (HXR.out.trans ho); have HBP := hide (HBP.out.only ho (by simp)); have c0 := HCELL.out _ HX.out 0 _ rfl; have c3 := HCELL.out _ HX.out 3 _ rfl; rw [Nat.add_zero] at c0; rw [← Nat.add_assoc] at c3; have p0 := HBP.out.cell 0; have p1 := HBP.out.cell 1; simp at p0 p1; clear ho)
                | (go_at_call 15; refine (refowner_both HL2.out HB2.out (HPV.out.only HX.out (by simp))).mono ?_; rw [HR.out]; rintro e wp ⟨rfl, ho⟩; have HB2 := hide (HB2.out.only ho); have HX := hide (HX.out.trans ho); have HXR := hide (HXR.out.trans ho); have HBP := hide (HBP.out.only ho (by simp)); have c0 := HCELL.out _ HX.out 0 _ rfl; have c3 := HCELL.out _ HX.out 3 _ rfl; rw [Nat.add_zero] at c0; rw [← Nat.add_assoc] at c3; have p0 := HBP.out.cell 0; have p1 := HBP.out.cell 1; simp at p0 p1; clear ho))
              go_roundw
              case rel => exact ⟨k + 1, by omega, by go_num, ⟨(dropV m ox), HB2, by have h := drop_len (m := m) (x := ox); omega⟩, HX⟩
              case measure => simp [intOf]; omega

            · have k4 : (kd == 4) = false := by rw [beq_eq_false_iff_ne]; exact hk4
              clear hk012 hk3 hk4
              go_upto_region 38 with (first
                | (go_at_call 6; refine (refright_any _ _ _ _ rv HRT.out _).mono ?_; rintro e wa ⟨rfl, ho⟩; have HX := hide (HX.out.trans ho); have HXR := hide (HXR.out.trans ho); have HBP := hide (HBP.out.only ho (by simp)); have c0 := HCELL.out _ HX.out 0 _ rfl; have c3 := HCELL.out _ HX.out 3 _ rfl; rw [Nat.add_zero] at c0; rw [← Nat.add_assoc] at c3; have p0 := HBP.out.cell 0; have p1 := HBP.out.cell 1; simp at p0 p1; clear ho))
              have HB2 := hide (HB.out.only HXR.out); have HL2 := HLM
              have HL2 := HLM
              obtain ⟨r1, r2, hR⟩ : ∃ r1 r2, ownR m pl = (r1, r2) := ⟨_, _, rfl⟩
              have HR := hide hR
              have hr1 : (r1 != r1) = false := by rw [bne_eq_false_iff_eq]
              have hr2 : (r2 != r2) = false := by rw [bne_eq_false_iff_eq]
              clear hR
              go_wp2_with (first
                | (go_at_call 14; refine (owner_both HB2.out (HPV.out.only HX.out (by simp))).mono ?_; rw [HR.out]; rintro e wo ⟨rfl, ho⟩; have HB2 := hide (HB2.out.only ho); have HX := hide (HX.out.trans ho); have HXR := hide (HXR.out.trans ho); have HBP := hide (HBP.out.only ho (by simp)); have c0 := HCELL.out _ HX.out 0 _ rfl; have c3 := HCELL.out _ HX.out 3 _ rfl; rw [Nat.add_zero] at c0; rw [← Nat.add_assoc] at c3; have p0 := HBP.out.cell 0; have p1 := HBP.out.cell 1; simp at p0 p1; clear ho)
                | (go_at_call 15; refine (refowner_both HL2.out HB2.out (HPV.out.only HX.out (by simp))).mono ?_; rw [HR.out]; rintro e wp ⟨rfl, ho⟩; have HB2 := hide (HB2.out.only ho); have HX := hide (HX.out.trans ho); have HXR := hide (HXR.out.trans ho); have HBP := hide (HBP.out.only ho (by simp)); have c0 := HCELL.out _ HX.out 0 _ rfl; have c3 := HCELL.out _ HX.out 3 _ rfl; rw [Nat.add_zero] at c0; rw [← Nat.add_assoc] at c3; have p0 := HBP.out.cell 0; have p1 := HBP.out.cell 1; simp at p0 p1; clear ho))
              go_roundw
              case rel => exact ⟨k + 1, by omega, by go_num, ⟨m, HB2, by omega⟩, HX⟩
              case measure => simp [intOf]; omega

      · have hp40I : (40 : Int) < (pl.length : Int) := by omega
        clear hp40
        go_wp2_with fail
        go_roundw
        case rel => exact ⟨k + 1, by omega, by go_num, ⟨m, hide (HB.out.only HXR.out), by omega⟩, HX⟩
        case measure => simp [intOf]; omega
    · have HL2 := hide (show m.length ≤ 1000 from by omega)
      have hkn : k = n := by omega
      subst hkn
      have hltI : ¬ (k : Int) < (k : Int) := by omega
      obtain ⟨r1, r2, hR⟩ : ∃ r1 r2, ownR m al = (r1, r2) := ⟨_, _, rfl⟩
      have HR := hide hR
      have hr1 : (r1 == r1) = true := by rw [beq_iff_eq]
      have hr2 : (r2 == r2) = true := by rw [beq_iff_eq]
      clear hR
      by_cases hn0 : 0 < k
      · have hn0I : (0 : Int) < (k : Int) := by omega
        obtain ⟨a, ha⟩ : ∃ a, l[0]? = some a := ⟨_, List.getElem?_eq_getElem (by rw [← HN.out]; exact hn0)⟩
        obtain ⟨g, o, rfl, _, hgl⟩ := HRD.out.addr (by rw [← HN.out]; omega)
        obtain ⟨av, kd, ⟨pl, pb⟩, ox⟩ := a
        have c2 := (HRD.out.only HX.out (by simp)).cell ha (j := 3) rfl
        have c2b := c2
        rw [← Nat.add_assoc] at c2b
        have c2c := c2
        simp at c2c
        go_wp2_with (first
          | (go_at_call 14; refine (owner_both HB.out (HVA.out.only HX.out (by simp))).mono ?_; rw [HR.out]; rintro e wo ⟨rfl, ho⟩; have HB := hide (HB.out.only ho); have HX := hide (HX.out.trans ho); clear ho)
          | (go_at_call 15; refine (refowner_both HL2.out HB.out (HVA.out.only HX.out (by simp))).mono ?_; rw [HR.out]; rintro e wp ⟨rfl, ho⟩; have HB := hide (HB.out.only ho); have HX := hide (HX.out.trans ho); clear ho)
          | (go_at_call 16; refine (even_both HL2.out HB.out).mono ?_; rintro e wq ⟨rfl, ho⟩; have HX := hide (HX.out.trans ho); clear ho))
        refine bodyPost_ret (results_tmp (by rfl) _ _ _) (by rfl) ?_
        exact ⟨rfl, HX.out⟩
      · have hn0I : ¬ (0 : Int) < (k : Int) := by omega
        go_wp2_with (first
          | (go_at_call 14; refine (owner_both HB.out (HVA.out.only HX.out (by simp))).mono ?_; rw [HR.out]; rintro e wo ⟨rfl, ho⟩; have HB := hide (HB.out.only ho); have HX := hide (HX.out.trans ho); clear ho)
          | (go_at_call 15; refine (refowner_both HL2.out HB.out (HVA.out.only HX.out (by simp))).mono ?_; rw [HR.out]; rintro e wp ⟨rfl, ho⟩; have HB := hide (HB.out.only ho); have HX := hide (HX.out.trans ho); clear ho)
          | (go_at_call 16; refine (even_both HL2.out HB.out).mono ?_; rintro e wq ⟨rfl, ho⟩; have HX := hide (HX.out.trans ho); clear ho))
        refine bodyPost_ret (results_tmp (by rfl) _ _ _) (by rfl) ?_
        exact ⟨rfl, HX.out⟩
end
end Go.Proofs.Ytokaobilphfdoaa

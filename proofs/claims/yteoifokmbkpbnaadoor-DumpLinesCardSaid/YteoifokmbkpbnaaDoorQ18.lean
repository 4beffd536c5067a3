/-
  Walks and plain words (texts Rt9). No condition beyond those that each theorem states.
-/
import Derived.Test.YteoifokmbkpbnaaDoorQ15
namespace Go.Proofs.YteoifokmbkpbnaaDoor
section
open Go.RowKit Go.Deep

set_option maxRecDepth 100000 in
set_option maxHeartbeats 12800000 in
theorem term_long11 (s : ByteArray) (f : Nat) (hT : ∀ f', f' ≤ f → TRSaid s f') (w : World) (p : Nat) (_hp : p ≤ s.size) (hs : s.size ≤ 1000000) (hf : 2 * (s.size - p) + 1 ≤ f + 1) (hk5 : 5 ≤ kindV (atV s p : Nat)) (hkv : kindV (atV s p : Nat) = 11) (h40 : atV s (p + 1) = 40) :
    Calls Tryd.prog 68 #[.string s, .int .i64 p] w (NodePost (rt s (f + 1) none p) w) := by
  have HA := hide (fun W (q : Nat) => atr_any W s q (by unfold maxLen; omega))
  have HK := hide (fun W => kindr_any (atV s p : Nat) W)
  have hp1 := at_lt (s := s) (p := p + 1) (by omega)
  have hkr := (kind_range (atV s p : Nat)).2
  have HRN := hide (fun h8 => rt_num (s := s) (f := f) (p := p) (kindV (atV s p : Nat)) rfl h8 h40)
  have HRO := hide (fun h8 => rt_open (s := s) (f := f) (p := p) (kindV (atV s p : Nat)) rfl hk5 h8 h40)
  have HA1 := hide (show ∀ W, Calls Tryd.prog 81 #[.string s, .int .i64 ((p : Int) + 1)] W fun e w' => e = .returned (.int .u8 40) ∧ W = w' from fun W => by have h := HA.out W (p + 1); rw [h40] at h; rwa [show ((p + 1 : Nat) : Int) = (p : Int) + 1 by omega] at h)
  rw [hkv] at HK HRN HRO
  clear hkv hk5 hkr
  generalize rt s (f + 1) none p = R at *
  have e0 : ((11 : Int) == 0) = false := by rw [beq_eq_false_iff_ne]; omega
  have h4I : ¬ (11 : Int) ≤ 4 := by omega
  have HB := hide ((Blk.new w 88 zeroN).alloc (.cells #[.int .i64 11, .int .u64 0, .slice none 0 0, .slice none 0 0] 88))
  have HM := hide (Blk.new (w.alloc (.cells zeroN 88)) 88 #[.int .i64 11, .int .u64 0, .slice none 0 0, .slice none 0 0])
  simp only [World.size_alloc] at HM
  have HO := hide (((Only.refl [] w).alloc (.cells zeroN 88)).alloc (.cells #[.int .i64 11, .int .u64 0, .slice none 0 0, .slice none 0 0] 88))
  have HT := hide hT
  have HFF := hide hf
  clear hT hf h40
  have HRR := hide (HRO.out (by first | decide | (rintro (h | h) <;> contradiction)))
  go_enter Tryd.func68, Tryd.ntmps68
  go_upto_if 46 with (first
    | (go_at_call 81; (with_reducible refine (HA1.out _).mono ?_); rintro e w1 ⟨rfl, rfl⟩)
    | (go_at_call 81; refine (HA.out _ _).mono ?_; rintro e w1 ⟨rfl, rfl⟩)
    | (go_at_call 80; refine (HK.out _).mono ?_; rintro e w1 ⟨rfl, rfl⟩))
  go_cut [1] (fun iv wr => ∃ (n j : Nat), iv = .int .i64 (j : Nat) ∧ p + 2 ≤ j ∧ j ≤ s.size ∧ Hid (rst s f (11 : Int) n j = R) ∧ Hid (Blk wr (w.heap.size + 1) 88 #[.int .i64 (11 : Int), .int .u64 (n : Nat), .slice none 0 0, .slice none 0 0]) ∧ Hid (Blk wr w.heap.size 88 zeroN) ∧ Hid (Only [] w wr))
  case first =>
    go_wp2_with fail
    go_meet
    exact ⟨0, p + 2, (by go_num), by omega, by omega, hide HRR.out.symm, HM, HB, HO⟩
  case rest =>
    obtain ⟨n, j, rfl, hj1, hj2, HST, HM1, HB1, HO1⟩ := hcut
    have HAJ := hide (fun W => HA.out W j)
    by_cases h41J : atV s j = 41
    · rw [h41J] at HAJ
      have hjlt := at_lt (s := s) (p := j) (by omega)
      have HR := hide (HST.out.symm.trans (show rst s f 11 n j = some ((11, n, [], []), j + 1) by unfold rst; rw [if_pos ⟨rfl, h41J⟩]))
      have z0 := HB1.out.cell 0
      have z1 := HB1.out.cell 1
      have z2 := HB1.out.cell 2
      have z3 := HB1.out.cell 3
      simp at z0 z1 z2 z3
      have zf := HB1.out.frozen
      have x0 := HM1.out.cell 0
      have x1 := HM1.out.cell 1
      have x2 := HM1.out.cell 2
      have x3 := HM1.out.cell 3
      simp at x0 x1 x2 x3
      clear HST HM HB HO
      go_wp2_with (go_at_call 81; refine (HAJ.out _).mono ?_; rintro e w9 ⟨rfl, rfl⟩)
      refine bodyPost_ret (results_cell_two rfl _ _ w.heap.size 88 _ (0, 0) _ rfl (((((HB1.out.set_ 0 _).set_ 1 _).set_ 2 _).set_ 3 _)) Tryd.underlying88 rfl (by kernel_rfl)) rfl ?_
      exact node_parts HR.out (only_four0 HO1.out (.inr (Nat.le_refl _))) (own_four ⟨by simp [strs], .inl ⟨rfl, rfl⟩⟩ HB1.out (by decide)) rfl (by go_num)
    · have h41J2 : (((atV s j : Nat) : Int) == 41) = false := by rw [beq_eq_false_iff_ne]; omega
      have HST := hide (HST.out.symm.trans (show rst s f 11 n j = rt s f (some (11, n, [])) j by unfold rst; rw [if_neg (by rintro ⟨_, h⟩; exact h41J h)]))
      clear h41J
      obtain ⟨i0, hi, hz0, hz1, hz2⟩ := info_parts (show (Tryd.prog.info? 9).map (fun i => (i.zero, i.size, i.bytes)) = some (some (.string ByteArray.empty), 1, 16) by kernel_rfl)
      clear HM HB HO
      go_wp2_with (go_at_call 81; refine (HAJ.out _).mono ?_; rintro e w9 ⟨rfl, rfl⟩)
      go_loopw [1] (fun iv wr2 => ∃ (j f1 : Nat) (parts : List ByteArray) (A : Option Addr) (c : Nat), iv = .int .i64 (j : Nat) ∧ j ≤ s.size ∧ 2 * (s.size - j) + 2 ≤ f1 ∧ f1 ≤ f ∧ parts.length ≤ j ∧ Hid (R = rt s f1 (some ((11 : Int), n, parts)) j) ∧ Hid (Blk wr2 (w.heap.size + 1) 88 #[.int .i64 (11 : Int), .int .u64 (n : Nat), .slice none 0 0, .slice A parts.length c]) ∧ Hid (wr2.ownsRow w.heap.size 9 1 (.slice A parts.length c) parts.length (strs parts)) ∧ Hid (Blk wr2 w.heap.size 88 zeroN) ∧ Hid (Only [] w wr2)) (fun iv _ => s.size - (intOf iv).toNat)
      case atStart => exact ⟨j, f, [], none, 0, rfl, hj2, by have := HFF.out; omega, Nat.le_refl _, by simp, HST, HM1, hide ⟨by simp [strs], .inl ⟨rfl, rfl⟩⟩, HB1, HO1⟩
      case round =>
        clear HM1 HB1 HO1 HST hj1 hj2
        obtain ⟨j, f1, parts, A, c, rfl, hj, hf1, hff, hpl, HST, HM1, HOW, HB1, HO1⟩ := hrel
        obtain ⟨f2, rfl⟩ : ∃ f2, f1 = f2 + 1 := ⟨f1 - 1, by omega⟩
        have HC := hide (HT.out f2 (by omega) wr j hj hs (by omega))
        have hst := HST.out
        rw [rt] at hst
        have hbd := rt_bd s f2 none j
        cases hq : rt s f2 none j with
        | none =>
          rw [hq] at hst HC
          simp only at hst
          have HR := hide hst
          unfold NodePost at HC
          simp only at HC
          clear hst hq hbd HST
          go_wp2_with (go_at_call 68; refine HC.out.mono ?_; rintro e w2 ⟨rfl, ho⟩; have HO1 := hide ((HO1.out.trans ho).alloc (.cells #[.int .i64 0, .int .u64 0, .slice none 0 0, .slice none 0 0] 88)); have HB1 := hide ((HB1.out.only ho (by simp)).alloc (.cells #[.int .i64 0, .int .u64 0, .slice none 0 0, .slice none 0 0] 88)); have z0 := HB1.out.cell 0; have z1 := HB1.out.cell 1; have z2 := HB1.out.cell 2; have z3 := HB1.out.cell 3; simp at z0 z1 z2 z3; have zf := HB1.out.frozen; clear ho)
          refine bodyPost_ret (results_cell_two rfl _ _ w.heap.size 88 _ (0, 0) _ rfl (((((HB1.out.set_ 0 _).set_ 1 _).set_ 2 _).set_ 3 _)) Tryd.underlying88 rfl (by kernel_rfl)) rfl ?_
          exact node_no HR.out (only_four0 HO1.out (.inr (Nat.le_refl _)))
        | some nq =>
          obtain ⟨⟨k2, n2, l2, ps2⟩, q⟩ := nq
          rw [hq] at hst HC
          simp only at hst
          have hb2 := hbd _ _ hq
          unfold NodePost at HC
          simp only at HC
          clear hbd hq HST
          go_upto_region 22 with (go_at_call 68; refine HC.out.mono ?_; rintro e w2 ⟨bv, pv, rfl, ho, hbb, hpp⟩; obtain ⟨Ab, cb, rfl, _, _⟩ := (hbb [] (by simp)).formb; obtain ⟨Ap, cp, rfl, _, _⟩ := (hpp [] (by simp)).form; have HO1 := hide ((HO1.out.trans ho).alloc (.cells #[.int .i64 k2, .int .u64 (n2 : Nat), .slice Ab l2.length cb, .slice Ap (strs ps2).length cp] 88)); have HB1 := hide ((HB1.out.only ho (by simp)).alloc (.cells #[.int .i64 k2, .int .u64 (n2 : Nat), .slice Ab l2.length cb, .slice Ap (strs ps2).length cp] 88)); have HM1 := hide ((HM1.out.only ho (by simp)).alloc (.cells #[.int .i64 k2, .int .u64 (n2 : Nat), .slice Ab l2.length cb, .slice Ap (strs ps2).length cp] 88)); have HOW := hide ((own_only HOW.out ho (by simp)).alloc (.cells #[.int .i64 k2, .int .u64 (n2 : Nat), .slice Ab l2.length cb, .slice Ap (strs ps2).length cp] 88)); clear ho hbb hpp)
          generalize (w2.alloc (.cells #[.int .i64 k2, .int .u64 (n2 : Nat), .slice Ab l2.length cb, .slice Ap (strs ps2).length cp] 88)) = wA at *
          have m3 := HM1.out.cell 3
          simp at m3
          have hqj : (j : Int) ≤ q := by omega
          have hqs : (q : Int) ≤ s.size := by omega
          have HSZ := hide HO1.out.size
          have HLM := hide HM1.out.lt
          have HRN := hide (reads_one wA.drew 9 (.string (s.extract j q)) (wA.heap.size + 1) (Nat.lt_succ_self _))
          have HOW2 := hide (World.ownsRow.alloc (own_only HOW.out ((Only.refl [] wA).drew) (by simp)) (.cells #[.string (s.extract j q)] 9))
          have HM2 := hide (HM1.out.drew.alloc (.cells #[.string (s.extract j q)] 9))
          have m3b := (HM1.out.alloc (.cells #[.string (s.extract j q)] 9)).cell 3
          simp at m3b
          have HB2 := hide (HB1.out.drew.alloc (.cells #[.string (s.extract j q)] 9))
          have HO2 := hide (HO1.out.drew.alloc (.cells #[.string (s.extract j q)] 9))
          go_region_law (first
            | (refine step_append_any _ rfl (.tmp 104) (.tmp 109) 80 rfl w.heap.size 9 i0 (.string ByteArray.empty) 1 16 Tryd.underlying80 hi hz0 hz1 hz2 rfl (by decide) _ parts.length _ rfl HOW2.out _ _ 1 1 [.string (s.extract j q)] rfl HRN.out (by simp [Value.oneCell']) (by unfold maxLen; omega) (by omega) (by have := HSZ.out; simp; omega) ?_; intro v1 w3 hown1 hg1 _; rw [strs_snoc] at hown1; obtain ⟨A1, c1, rfl, _, _⟩ := own_form hown1; have HM3 := hide (HM2.out.grown hg1 (own_ne HOW2.out HM2.out (by decide))); have HB3 := hide (HB2.out.grown hg1 (own_ne HOW2.out HB2.out (by decide))); have HO3 := hide (HO2.out.grown hg1 (fun jj hjj => .inr (own_block_ge HOW2.out hjj))); have HOW3 := hide hown1; have y0 := HM3.out.cell 0; have y1 := HM3.out.cell 1; have y2 := HM3.out.cell 2; have y3 := HM3.out.cell 3; simp at y0 y1 y2 y3; have yf := HM3.out.frozen; clear hown1 hg1))
          all_goals
            have HM4 := hide (HM3.out.set_ 3 (.slice A1 (parts.length + 1) c1))
            have HB4 := hide (HB3.out.far (p := ⟨w.heap.size + 1, 3, none⟩) (by simp) (.slice A1 (parts.length + 1) c1))
            have HO4 := hide (HO3.out.setCell (p := ⟨w.heap.size + 1, 3, none⟩) (.inr (by simp)) (.slice A1 (parts.length + 1) c1))
            have HOW4 := hide (own_set HOW3.out HM3.out (by decide) 3 (.slice A1 (parts.length + 1) c1))
            go_upto_region 23 with (fail)
            generalize w3.setCell ⟨w.heap.size + 1, 3, none⟩ (.slice A1 (parts.length + 1) c1) = w4 at *
            have z0 := HB4.out.cell 0
            have z1 := HB4.out.cell 1
            have z2 := HB4.out.cell 2
            have z3 := HB4.out.cell 3
            simp at z0 z1 z2 z3
            have zf := HB4.out.frozen
            have x0 := HM4.out.cell 0
            have x1 := HM4.out.cell 1
            have x2 := HM4.out.cell 2
            have x3 := HM4.out.cell 3
            simp at x0 x1 x2 x3
            have HAQ := hide (fun W => HA.out W q)
            clear y0 y1 y2 y3 yf m3 m3b
            by_cases h41 : atV s q = 41
            · rw [if_pos h41] at hst
              rw [h41] at HAQ
              have hqlt := at_lt (s := s) (p := q) (by omega)
              have HRG := hide (fun W => rightr_any (11 : Int) ((parts.length + 1 : Nat) : Int) W)
              cases hrt : rightR (11 : Int) ((parts.length + 1 : Nat) : Int) with
              | false =>
                rw [if_neg (by rintro ⟨h, _⟩; rw [hrt] at h; cases h)] at hst
                rw [hrt] at HRG
                have HR := hide hst
                clear hst hrt h41
                go_wp2_with (go_at_call 81; refine (HAQ.out _).mono ?_; rintro e w9 ⟨rfl, rfl⟩)
                go_quiet (exact quiet_left (HRG.out _))
                go_wp2_with fail
                refine bodyPost_ret (results_cell_two rfl _ _ w.heap.size 88 _ (0, 0) _ rfl ((((((HB4.out.drewN _).set_ 0 _).set_ 1 _).set_ 2 _).set_ 3 _)) Tryd.underlying88 rfl (by kernel_rfl)) rfl ?_
                exact node_no HR.out (only_four0 (HO4.out.drewN _) (.inr (Nat.le_refl _)))
              | true =>
                rw [if_pos ⟨hrt, (by rintro ⟨h, _⟩; exact absurd h (by decide))⟩] at hst
                rw [hrt] at HRG
                have HR := hide hst
                clear hst hrt h41
                go_wp2_with (go_at_call 81; refine (HAQ.out _).mono ?_; rintro e w9 ⟨rfl, rfl⟩)
                go_quiet (exact quiet_left (HRG.out _))
                go_wp2_with fail
                refine bodyPost_ret (results_cell_two rfl _ _ w.heap.size 88 _ (0, 0) _ rfl ((((((HB4.out.drewN _).set_ 0 _).set_ 1 _).set_ 2 _).set_ 3 _)) Tryd.underlying88 rfl (by kernel_rfl)) rfl ?_
                exact node_parts HR.out (only_four0 (HO4.out.drewN _) (.inr (Nat.le_refl _))) (own_four (own_only HOW4.out ((Only.refl [] w4).drewN _) (by simp)) (HB4.out.drewN _) (by decide)) (by rw [List.length_append, List.length_singleton]) (by go_num)
            · rw [if_neg h41] at hst
              have h41I : (((atV s q : Nat) : Int) == 41) = false := by rw [beq_eq_false_iff_ne]; omega
              by_cases h44 : atV s q = 44
              · rw [if_neg (by rw [h44]; simp)] at hst
                rw [h44] at HAQ
                have hqlt := at_lt (s := s) (p := q) (by omega)
                have HR := hide hst
                clear hst h41 h41I
                go_wp2_with (go_at_call 81; refine (HAQ.out _).mono ?_; rintro e w9 ⟨rfl, rfl⟩)
                go_roundw
                case rel => exact ⟨q + 1, f2, parts ++ [s.extract j q], A1, c1, (by go_num), by omega, by omega, by omega, (by rw [List.length_append, List.length_singleton]; omega), HR, (by rw [List.length_append, List.length_singleton]; exact HM4), (by rw [List.length_append, List.length_singleton]; exact HOW4), HB4, HO4⟩
                case measure => simp [intOf]; omega
              · rw [if_pos h44] at hst
                have h44I : (((atV s q : Nat) : Int) != 44) = true := by rw [bne_iff_ne]; omega
                have HR := hide hst
                clear hst h41
                go_wp2_with (go_at_call 81; refine (HAQ.out _).mono ?_; rintro e w9 ⟨rfl, rfl⟩)
                refine bodyPost_ret (results_cell_two rfl _ _ w.heap.size 88 _ (0, 0) _ rfl (((((HB4.out.set_ 0 _).set_ 1 _).set_ 2 _).set_ 3 _)) Tryd.underlying88 rfl (by kernel_rfl)) rfl ?_
                exact node_no HR.out (only_four0 HO4.out (.inr (Nat.le_refl _)))
end
end Go.Proofs.YteoifokmbkpbnaaDoor

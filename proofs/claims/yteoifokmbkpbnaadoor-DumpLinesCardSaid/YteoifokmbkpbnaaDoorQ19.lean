/-
  Walks and plain words (texts Rt10, Ge). No condition beyond those that each theorem states.
-/
import Derived.Test.YteoifokmbkpbnaaDoorQ15
namespace Go.Proofs.YteoifokmbkpbnaaDoor
section
open Go.RowKit Go.Deep

theorem own_two {w : World} {base e m c : Nat} {A : Option Addr} {l : List ByteArray} (h : w.ownsRow base e 1 (.slice A m c) m (strs l)) (hl : 2 ≤ l.length) :
    ∃ g, A = some ⟨g, 0, none⟩ ∧ w.cell? ⟨g, 0, none⟩ = some (.string (l.getD 0 ByteArray.empty)) ∧ w.cell? ⟨g, 1, none⟩ = some (.string (l.getD 1 ByteArray.empty)) := by
  have hm : l.length = m := by have := h.1; rw [strs_length] at this; omega
  rcases h.2 with ⟨_, h0⟩ | ⟨g, cap, cur, hv, hb, hh, h1, h2, h3, h4⟩
  · omega
  · injection hv with hA
    subst hA
    have key : ∀ i, i < l.length → cur[i]? = some (.string (l.getD i ByteArray.empty)) := by
      intro i hi
      have e1 : cur.toList[i]? = (cur.toList.take (m * 1))[i]? := by rw [List.getElem?_take, if_pos (by omega)]
      rw [← Array.getElem?_toList, e1, h4]
      simp [strs, List.getElem?_eq_getElem hi]
    have hk : Blk w g e cur := hh
    have c0 := hk.cell 0
    have c1 := hk.cell 1
    rw [key 0 (by omega)] at c0
    rw [key 1 (by omega)] at c1
    exact ⟨g, rfl, by simpa using c0, by simpa using c1⟩

set_option maxRecDepth 100000 in
set_option maxHeartbeats 12800000 in
theorem term_long6 (s : ByteArray) (f : Nat) (hT : ∀ f', f' ≤ f → TRSaid s f') (w : World) (p : Nat) (_hp : p ≤ s.size) (hs : s.size ≤ 1000000) (hf : 2 * (s.size - p) + 1 ≤ f + 1) (hk5 : 5 ≤ kindV (atV s p : Nat)) (hkv : kindV (atV s p : Nat) = 6) (h40 : atV s (p + 1) = 40) :
    Calls Tryd.prog 68 #[.string s, .int .i64 p] w (NodePost (rt s (f + 1) none p) w) := by
  have HA := hide (fun W (q : Nat) => atr_any W s q (by unfold maxLen; omega))
  have HK := hide (fun W => kindr_any (atV s p : Nat) W)
  have hp1 := at_lt (s := s) (p := p + 1) (by omega)
  have hkr := (kind_range (atV s p : Nat)).2
  have HRN := hide (fun h8 => rt_num (s := s) (f := f) (p := p) (kindV (atV s p : Nat)) rfl h8 h40)
  have HRO := hide (fun h8 => rt_open (s := s) (f := f) (p := p) (kindV (atV s p : Nat)) rfl hk5 h8 h40)
  have HA1 := hide (show ∀ W, Calls Tryd.prog 81 #[.string s, .int .i64 ((p : Int) + 1)] W fun e w' => e = .returned (.int .u8 40) ∧ W = w' from fun W => by have h := HA.out W (p + 1); rw [h40] at h; rwa [show ((p + 1 : Nat) : Int) = (p : Int) + 1 by omega] at h)
  rw [hkv] at HK HRN HRO
  clear hkv hk5 hkr
  generalize rt s (f + 1) none p = R at *
  have e0 : ((6 : Int) == 0) = false := by rw [beq_eq_false_iff_ne]; omega
  have h4I : ¬ (6 : Int) ≤ 4 := by omega
  have HB := hide ((Blk.new w 88 zeroN).alloc (.cells #[.int .i64 6, .int .u64 0, .slice none 0 0, .slice none 0 0] 88))
  have HM := hide (Blk.new (w.alloc (.cells zeroN 88)) 88 #[.int .i64 6, .int .u64 0, .slice none 0 0, .slice none 0 0])
  simp only [World.size_alloc] at HM
  have HO := hide (((Only.refl [] w).alloc (.cells zeroN 88)).alloc (.cells #[.int .i64 6, .int .u64 0, .slice none 0 0, .slice none 0 0] 88))
  have HT := hide hT
  have HFF := hide hf
  clear hT hf h40
  have HRR := hide (HRO.out (by first | decide | (rintro (h | h) <;> contradiction)))
  go_enter Tryd.func68, Tryd.ntmps68
  go_upto_if 46 with (first
    | (go_at_call 81; (with_reducible refine (HA1.out _).mono ?_); rintro e w1 ⟨rfl, rfl⟩)
    | (go_at_call 81; refine (HA.out _ _).mono ?_; rintro e w1 ⟨rfl, rfl⟩)
    | (go_at_call 80; refine (HK.out _).mono ?_; rintro e w1 ⟨rfl, rfl⟩))
  go_cut [1] (fun iv wr => ∃ (n j : Nat), iv = .int .i64 (j : Nat) ∧ p + 2 ≤ j ∧ j ≤ s.size ∧ Hid (rst s f (6 : Int) n j = R) ∧ Hid (Blk wr (w.heap.size + 1) 88 #[.int .i64 (6 : Int), .int .u64 (n : Nat), .slice none 0 0, .slice none 0 0]) ∧ Hid (Blk wr w.heap.size 88 zeroN) ∧ Hid (Only [] w wr))
  case first =>
    go_wp2_with fail
    go_meet
    exact ⟨0, p + 2, (by go_num), by omega, by omega, hide HRR.out.symm, HM, HB, HO⟩
  case rest =>
    obtain ⟨n, j, rfl, hj1, hj2, HST, HM1, HB1, HO1⟩ := hcut
    have HST := hide (HST.out.symm.trans (show rst s f 6 n j = rt s f (some (6, n, [])) j by unfold rst; rw [if_neg (by rintro ⟨h, _⟩; exact absurd h (by decide))]))
    obtain ⟨i0, hi, hz0, hz1, hz2⟩ := info_parts (show (Tryd.prog.info? 9).map (fun i => (i.zero, i.size, i.bytes)) = some (some (.string ByteArray.empty), 1, 16) by kernel_rfl)
    clear HM HB HO
    go_wp2_with fail
    go_loopw [1] (fun iv wr2 => ∃ (j f1 : Nat) (parts : List ByteArray) (A : Option Addr) (c : Nat), iv = .int .i64 (j : Nat) ∧ j ≤ s.size ∧ 2 * (s.size - j) + 2 ≤ f1 ∧ f1 ≤ f ∧ parts.length ≤ j ∧ Hid (R = rt s f1 (some ((6 : Int), n, parts)) j) ∧ Hid (Blk wr2 (w.heap.size + 1) 88 #[.int .i64 (6 : Int), .int .u64 (n : Nat), .slice none 0 0, .slice A parts.length c]) ∧ Hid (wr2.ownsRow w.heap.size 9 1 (.slice A parts.length c) parts.length (strs parts)) ∧ Hid (Blk wr2 w.heap.size 88 zeroN) ∧ Hid (Only [] w wr2)) (fun iv _ => s.size - (intOf iv).toNat)
    case atStart => exact ⟨j, f, [], none, 0, rfl, hj2, by have := HFF.out; omega, Nat.le_refl _, by simp, HST, HM1, hide ⟨by simp [strs], .inl ⟨rfl, rfl⟩⟩, HB1, HO1⟩
    case round =>
      clear HM1 HB1 HO1 HST hj1 hj2
      obtain ⟨j, f1, parts, A, c, rfl, hj, hf1, hff, hpl, HST, HM1, HOW, HB1, HO1⟩ := hrel
      obtain ⟨f2, rfl⟩ : ∃ f2, f1 = f2 + 1 := ⟨f1 - 1, by omega⟩
      have HC := hide (HT.out f2 (by omega) wr j hj hs (by omega))
      have hst := HST.out
      rw [rt] at hst
      have hbd := rt_bd s f2 none j
      cases hq : rt s f2 none j with
      | none =>
        rw [hq] at hst HC
        simp only at hst
        have HR := hide hst
        unfold NodePost at HC
        simp only at HC
        clear hst hq hbd HST
        go_wp2_with (go_at_call 68; refine HC.out.mono ?_; rintro e w2 ⟨rfl, ho⟩; have HO1 := hide ((HO1.out.trans ho).alloc (.cells #[.int .i64 0, .int .u64 0, .slice none 0 0, .slice none 0 0] 88)); have HB1 := hide ((HB1.out.only ho (by simp)).alloc (.cells #[.int .i64 0, .int .u64 0, .slice none 0 0, .slice none 0 0] 88)); have z0 := HB1.out.cell 0; have z1 := HB1.out.cell 1; have z2 := HB1.out.cell 2; have z3 := HB1.out.cell 3; simp at z0 z1 z2 z3; have zf := HB1.out.frozen; clear ho)
        refine bodyPost_ret (results_cell_two rfl _ _ w.heap.size 88 _ (0, 0) _ rfl (((((HB1.out.set_ 0 _).set_ 1 _).set_ 2 _).set_ 3 _)) Tryd.underlying88 rfl (by kernel_rfl)) rfl ?_
        exact node_no HR.out (only_four0 HO1.out (.inr (Nat.le_refl _)))
      | some nq =>
        obtain ⟨⟨k2, n2, l2, ps2⟩, q⟩ := nq
        rw [hq] at hst HC
        simp only at hst
        have hb2 := hbd _ _ hq
        unfold NodePost at HC
        simp only at HC
        clear hbd hq HST
        go_upto_region 22 with (go_at_call 68; refine HC.out.mono ?_; rintro e w2 ⟨bv, pv, rfl, ho, hbb, hpp⟩; obtain ⟨Ab, cb, rfl, _, _⟩ := (hbb [] (by simp)).formb; obtain ⟨Ap, cp, rfl, _, _⟩ := (hpp [] (by simp)).form; have HO1 := hide ((HO1.out.trans ho).alloc (.cells #[.int .i64 k2, .int .u64 (n2 : Nat), .slice Ab l2.length cb, .slice Ap (strs ps2).length cp] 88)); have HB1 := hide ((HB1.out.only ho (by simp)).alloc (.cells #[.int .i64 k2, .int .u64 (n2 : Nat), .slice Ab l2.length cb, .slice Ap (strs ps2).length cp] 88)); have HM1 := hide ((HM1.out.only ho (by simp)).alloc (.cells #[.int .i64 k2, .int .u64 (n2 : Nat), .slice Ab l2.length cb, .slice Ap (strs ps2).length cp] 88)); have HOW := hide ((own_only HOW.out ho (by simp)).alloc (.cells #[.int .i64 k2, .int .u64 (n2 : Nat), .slice Ab l2.length cb, .slice Ap (strs ps2).length cp] 88)); clear ho hbb hpp)
        generalize (w2.alloc (.cells #[.int .i64 k2, .int .u64 (n2 : Nat), .slice Ab l2.length cb, .slice Ap (strs ps2).length cp] 88)) = wA at *
        have m3 := HM1.out.cell 3
        simp at m3
        have hqj : (j : Int) ≤ q := by omega
        have hqs : (q : Int) ≤ s.size := by omega
        have HSZ := hide HO1.out.size
        have HLM := hide HM1.out.lt
        have HRN := hide (reads_one wA.drew 9 (.string (s.extract j q)) (wA.heap.size + 1) (Nat.lt_succ_self _))
        have HOW2 := hide (World.ownsRow.alloc (own_only HOW.out ((Only.refl [] wA).drew) (by simp)) (.cells #[.string (s.extract j q)] 9))
        have HM2 := hide (HM1.out.drew.alloc (.cells #[.string (s.extract j q)] 9))
        have m3b := (HM1.out.alloc (.cells #[.string (s.extract j q)] 9)).cell 3
        simp at m3b
        have HB2 := hide (HB1.out.drew.alloc (.cells #[.string (s.extract j q)] 9))
        have HO2 := hide (HO1.out.drew.alloc (.cells #[.string (s.extract j q)] 9))
        go_region_law (first
          | (refine step_append_any _ rfl (.tmp 104) (.tmp 109) 80 rfl w.heap.size 9 i0 (.string ByteArray.empty) 1 16 Tryd.underlying80 hi hz0 hz1 hz2 rfl (by decide) _ parts.length _ rfl HOW2.out _ _ 1 1 [.string (s.extract j q)] rfl HRN.out (by simp [Value.oneCell']) (by unfold maxLen; omega) (by omega) (by have := HSZ.out; simp; omega) ?_; intro v1 w3 hown1 hg1 _; rw [strs_snoc] at hown1; obtain ⟨A1, c1, rfl, _, _⟩ := own_form hown1; have HM3 := hide (HM2.out.grown hg1 (own_ne HOW2.out HM2.out (by decide))); have HB3 := hide (HB2.out.grown hg1 (own_ne HOW2.out HB2.out (by decide))); have HO3 := hide (HO2.out.grown hg1 (fun jj hjj => .inr (own_block_ge HOW2.out hjj))); have HOW3 := hide hown1; have y0 := HM3.out.cell 0; have y1 := HM3.out.cell 1; have y2 := HM3.out.cell 2; have y3 := HM3.out.cell 3; simp at y0 y1 y2 y3; have yf := HM3.out.frozen; clear hown1 hg1))
        all_goals
          have HM4 := hide (HM3.out.set_ 3 (.slice A1 (parts.length + 1) c1))
          have HB4 := hide (HB3.out.far (p := ⟨w.heap.size + 1, 3, none⟩) (by simp) (.slice A1 (parts.length + 1) c1))
          have HO4 := hide (HO3.out.setCell (p := ⟨w.heap.size + 1, 3, none⟩) (.inr (by simp)) (.slice A1 (parts.length + 1) c1))
          have HOW4 := hide (own_set HOW3.out HM3.out (by decide) 3 (.slice A1 (parts.length + 1) c1))
          go_upto_region 23 with (fail)
          generalize w3.setCell ⟨w.heap.size + 1, 3, none⟩ (.slice A1 (parts.length + 1) c1) = w4 at *
          have z0 := HB4.out.cell 0
          have z1 := HB4.out.cell 1
          have z2 := HB4.out.cell 2
          have z3 := HB4.out.cell 3
          simp at z0 z1 z2 z3
          have zf := HB4.out.frozen
          have x0 := HM4.out.cell 0
          have x1 := HM4.out.cell 1
          have x2 := HM4.out.cell 2
          have x3 := HM4.out.cell 3
          simp at x0 x1 x2 x3
          have HAQ := hide (fun W => HA.out W q)
          clear y0 y1 y2 y3 yf m3 m3b
          by_cases h41 : atV s q = 41
          · rw [if_pos h41] at hst
            rw [h41] at HAQ
            have hqlt := at_lt (s := s) (p := q) (by omega)
            have HRG := hide (fun W => rightr_any (6 : Int) ((parts.length + 1 : Nat) : Int) W)
            cases hrt : rightR (6 : Int) ((parts.length + 1 : Nat) : Int) with
            | false =>
              rw [if_neg (by rintro ⟨h, _⟩; rw [hrt] at h; cases h)] at hst
              rw [hrt] at HRG
              have HR := hide hst
              clear hst hrt h41
              go_wp2_with (go_at_call 81; refine (HAQ.out _).mono ?_; rintro e w9 ⟨rfl, rfl⟩)
              go_quiet (exact quiet_left (HRG.out _))
              go_wp2_with fail
              refine bodyPost_ret (results_cell_two rfl _ _ w.heap.size 88 _ (0, 0) _ rfl ((((((HB4.out.drewN _).set_ 0 _).set_ 1 _).set_ 2 _).set_ 3 _)) Tryd.underlying88 rfl (by kernel_rfl)) rfl ?_
              exact node_no HR.out (only_four0 (HO4.out.drewN _) (.inr (Nat.le_refl _)))
            | true =>
              have h6 : rightR 6 ((parts.length + 1 : Nat) : Int) = decide (((parts.length + 1 : Nat) : Int) = 2) := rfl
              have hp1 : parts.length = 1 := by
                have h := of_decide_eq_true (h6.symm.trans hrt)
                omega
              clear h6
              obtain ⟨g3, rfl, hc0, hc1⟩ := own_two HOW4.out (by rw [List.length_append, List.length_singleton]; omega)
              rw [hrt] at HRG
              obtain ⟨a0, rfl⟩ : ∃ a0, parts = [a0] := List.length_eq_one_iff.1 hp1
              have HRG2 := hide (show ∀ W, Calls Tryd.prog 84 #[.int .i64 6, .int .i64 2] W fun e w' => e = .returned (.bool true) ∧ W = w' from HRG.out)
              have y3 : w4.cell? ⟨w.heap.size + 1, 3, none⟩ = some (.slice (some ⟨g3, 0, none⟩) 2 c1) := x3
              have hL : ([a0] ++ [s.extract j q]).length = [a0].length + 1 := rfl
              have hd0 : w4.cell? ⟨g3, 0, none⟩ = some (.string a0) := hc0
              have hd1 : w4.cell? ⟨g3, 1, none⟩ = some (.string (s.extract j q)) := hc1
              clear hc0 hc1 x3 HRG hp1 h41
              rcases Bool.eq_false_or_eq_true (gtB a0 (s.extract j q)) with hg | hg
              · rw [if_neg (by rintro ⟨_, h⟩; exact h ⟨trivial, hg⟩)] at hst
                have HR := hide hst
                unfold gtB at hg
                clear hst hrt hL
                go_wp2_with (go_at_call 81; refine (HAQ.out _).mono ?_; rintro e w9 ⟨rfl, rfl⟩)
                go_quiet (exact quiet_left (HRG2.out _))
                go_wp2_with fail
                refine bodyPost_ret (results_cell_two rfl _ _ w.heap.size 88 _ (0, 0) _ rfl ((((((HB4.out.drewN _).set_ 0 _).set_ 1 _).set_ 2 _).set_ 3 _)) Tryd.underlying88 rfl (by kernel_rfl)) rfl ?_
                exact node_no HR.out (only_four0 (HO4.out.drewN _) (.inr (Nat.le_refl _)))
              · rw [if_pos ⟨hrt, (by rintro ⟨_, h⟩; have h2 := hg.symm.trans h; cases h2)⟩] at hst
                have HR := hide hst
                have HL := hide hL
                unfold gtB at hg
                clear hst hrt hL
                go_wp2_with (go_at_call 81; refine (HAQ.out _).mono ?_; rintro e w9 ⟨rfl, rfl⟩)
                go_quiet (exact quiet_left (HRG2.out _))
                go_wp2_with fail
                refine bodyPost_ret (results_cell_two rfl _ _ w.heap.size 88 _ (0, 0) _ rfl ((((((HB4.out.drewN _).set_ 0 _).set_ 1 _).set_ 2 _).set_ 3 _)) Tryd.underlying88 rfl (by kernel_rfl)) rfl ?_
                exact node_parts HR.out (only_four0 (HO4.out.drewN _) (.inr (Nat.le_refl _))) (own_four (own_only HOW4.out ((Only.refl [] w4).drewN _) (by simp)) (HB4.out.drewN _) (by decide)) HL.out (by go_num)
          · rw [if_neg h41] at hst
            have h41I : (((atV s q : Nat) : Int) == 41) = false := by rw [beq_eq_false_iff_ne]; omega
            by_cases h44 : atV s q = 44
            · rw [if_neg (by rw [h44]; simp)] at hst
              rw [h44] at HAQ
              have hqlt := at_lt (s := s) (p := q) (by omega)
              have HR := hide hst
              clear hst h41 h41I
              go_wp2_with (go_at_call 81; refine (HAQ.out _).mono ?_; rintro e w9 ⟨rfl, rfl⟩)
              go_roundw
              case rel => exact ⟨q + 1, f2, parts ++ [s.extract j q], A1, c1, (by go_num), by omega, by omega, by omega, (by rw [List.length_append, List.length_singleton]; omega), HR, (by rw [List.length_append, List.length_singleton]; exact HM4), (by rw [List.length_append, List.length_singleton]; exact HOW4), HB4, HO4⟩
              case measure => simp [intOf]; omega
            · rw [if_pos h44] at hst
              have h44I : (((atV s q : Nat) : Int) != 44) = true := by rw [bne_iff_ne]; omega
              have HR := hide hst
              clear hst h41
              go_wp2_with (go_at_call 81; refine (HAQ.out _).mono ?_; rintro e w9 ⟨rfl, rfl⟩)
              refine bodyPost_ret (results_cell_two rfl _ _ w.heap.size 88 _ (0, 0) _ rfl (((((HB4.out.set_ 0 _).set_ 1 _).set_ 2 _).set_ 3 _)) Tryd.underlying88 rfl (by kernel_rfl)) rfl ?_
              exact node_no HR.out (only_four0 HO4.out (.inr (Nat.le_refl _)))
end
section
open Go.RowKit Go.Deep

/-- Where a term ends in front of a bracket that opens, there is none. -/
def good (s : ByteArray) (x : Option (Nd × Nat)) : Option (Nd × Nat) :=
  match x with
  | none => none
  | some (nd, q) => if atV s q = 40 then none else some (nd, q)
theorem good_some {s : ByteArray} {x : Option (Nd × Nat)} {nd : Nd} {q : Nat} (h : good s x = some (nd, q)) : x = some (nd, q) ∧ atV s q ≠ 40 := by
  unfold good at h
  split at h
  · cases h
  · split at h
    · cases h
    · rename_i h40
      simp only [Option.some.injEq, Prod.mk.injEq] at h
      obtain ⟨rfl, rfl⟩ := h
      exact ⟨rfl, h40⟩
theorem peek_at (s : ByteArray) (p : Nat) (c : Nat) (hc : c ≠ 0) : peekV s p (c : Int) = decide (atV s p = c) := by
  unfold peekV atV
  split
  · rw [Bool.eq_iff_iff]; simp; omega
  · rw [eq_comm, decide_eq_false_iff_not]; omega
theorem numR_bad40 {l : List UInt8} (h : (40 : UInt8) ∈ l) : (numR l).2 ≠ 0 := by
  unfold numR
  split
  · decide
  · split
    · decide
    · rename_i h1
      exact absurd (List.all_eq_false.2 ⟨40, h, by decide⟩) h1
theorem hexR_bad40 {l : List UInt8} (h : (40 : UInt8) ∈ l) : (hexR l).2 ≠ 0 := by
  unfold hexR
  split
  · decide
  · rename_i h1
    exact absurd (List.all_eq_false.2 ⟨40, h, by decide⟩) h1
theorem numK_bad40 {k : Int} {l : List UInt8} (h : (40 : UInt8) ∈ l) : numK k l = none := by
  unfold numK
  rw [if_neg (by rintro ⟨a, _⟩; exact numR_bad40 h a)]
/-- The two words' ends. -/
theorem take_two (l : List UInt8) : (l.takeWhile fun c => !delR c) = (l.takeWhile fun c => !del c) ∧ ((l.drop (l.takeWhile fun c => !del c).length).head? ≠ some 40) ∨
    (40 : UInt8) ∈ (l.takeWhile fun c => !delR c) ∧ (l.drop (l.takeWhile fun c => !del c).length).head? = some 40 := by
  induction l with
  | nil => left; simp
  | cons c r ih =>
    by_cases h : del c = true
    · by_cases h40 : c = 40
      · subst h40
        right
        have : delR 40 = false := by decide
        simp [this, h]
      · left
        have h2 : delR c = true := by
          unfold del at h
          unfold delR
          simp only [Bool.or_eq_true, beq_iff_eq] at h ⊢
          rcases h with h | h
          · exact h
          · exact absurd h h40
        simp [h, h2, h40]
    · have h1 : del c = false := by simpa using h
      have h2 : delR c = false := by
        unfold del at h1
        unfold delR
        simp only [Bool.or_eq_false_iff] at h1 ⊢
        exact h1.1
      rw [List.takeWhile_cons_of_pos (by rw [h2]; rfl), List.takeWhile_cons_of_pos (by rw [h1]; rfl)]
      rcases ih with ⟨a, b⟩ | ⟨a, b⟩
      · left; rw [a]; exact ⟨rfl, by simpa using b⟩
      · right; exact ⟨List.mem_cons_of_mem _ a, by simpa using b⟩
theorem at_head (s : ByteArray) (p : Nat) : atV s p = 40 ↔ (s.data.toList.drop p).head? = some 40 := by
  unfold atV
  split
  · rename_i h
    rw [drop_at s p h]
    simp only [List.head?_cons, Option.some.injEq]
    constructor
    · intro e; exact UInt8.toNat_inj.1 e
    · intro e; rw [e]; rfl
  · rename_i h
    rw [List.drop_of_length_le (by simpa using h)]
    simp
theorem ext_take (s : ByteArray) (p n : Nat) : (s.extract p (p + n)).data.toList = (s.data.toList.drop p).take n := by
  rw [ByteArray.data_extract, Array.toList_extract]
  simp [List.extract]
theorem take_while_take (l : List UInt8) (f : UInt8 → Bool) : l.take (l.takeWhile f).length = l.takeWhile f := by
  induction l with
  | nil => rfl
  | cons c r ih =>
    by_cases h : f c = true
    · rw [List.takeWhile_cons_of_pos h]; simp [ih]
    · rw [List.takeWhile_cons_of_neg h]; rfl
theorem word_two (s : ByteArray) (p : Nat) : (wendR s p = wend s p ∧ atV s (wend s p) ≠ 40) ∨ ((40 : UInt8) ∈ (s.extract p (wendR s p)).data.toList ∧ atV s (wend s p) = 40) := by
  unfold wendR wend
  rw [ext_take, take_while_take, Ne, at_head]
  rcases take_two (s.data.toList.drop p) with ⟨a, b⟩ | ⟨a, b⟩
  · left
    refine ⟨by rw [a], ?_⟩
    rw [List.drop_drop] at b
    exact b
  · right
    refine ⟨a, ?_⟩
    rw [List.drop_drop] at b
    exact b
theorem fits_right {k c : Int} (h : 5 ≤ k) (h2 : k ≤ 11) (hc : 1 ≤ c) : fitsV k c = rightR k c := by
  rcases (show k = 5 ∨ k = 6 ∨ k = 7 ∨ k = 8 ∨ k = 9 ∨ k = 10 ∨ k = 11 by omega) with rfl | rfl | rfl | rfl | rfl | rfl | rfl
  all_goals
    simp only [fitsV, rightR, leastV, mostV]
    rw [Bool.eq_iff_iff]
    simp
    try omega
theorem fits_zero {k : Int} (h : 5 ≤ k) (h2 : k ≤ 11) : fitsV k 0 = decide (k = 11) := by
  rcases (show k = 5 ∨ k = 6 ∨ k = 7 ∨ k = 8 ∨ k = 9 ∨ k = 10 ∨ k = 11 by omega) with rfl | rfl | rfl | rfl | rfl | rfl | rfl
  all_goals decide
theorem kind_le (c : Int) : 0 ≤ kindV c ∧ kindV c ≤ 11 := by
  unfold kindV
  repeat' split
  all_goals omega
theorem rt_long (s : ByteArray) : ∀ (f n : Nat) (parts : List ByteArray) (p : Nat), 2 ≤ parts.length → rt s f (some (6, n, parts)) p = none := by
  intro f
  induction f with
  | zero => intros; rfl
  | succ f ih =>
    intro n parts p hp
    rw [rt]
    split
    · rfl
    · split
      · rw [if_neg]
        rintro ⟨h, _⟩
        have := of_decide_eq_true (show decide (((parts.length + 1 : Nat) : Int) = 2) = true from h)
        omega
      · split
        · rfl
        · exact ih _ _ _ (by rw [List.length_append]; simp; omega)
theorem rt_close (s : ByteArray) (f : Nat) (k : Int) (n : Nat) (p : Nat) (h : atV s p = 41) : rt s f (some (k, n, [])) p = none := by
  cases f with
  | zero => rfl
  | succ f =>
    rw [rt]
    cases f with
    | zero => rfl
    | succ f => rw [rt, if_pos (by rw [h]; decide)]
theorem last_two (a b : ByteArray) : ([a] ++ [b]).getD 0 ByteArray.empty = a ∧ ([a] ++ [b]).getD 1 ByteArray.empty = b := ⟨rfl, rfl⟩
theorem good_rt (s : ByteArray) : ∀ (f : Nat) (m : Option (Int × Nat × List ByteArray)) (p : Nat), (∀ k n l, m = some (k, n, l) → 5 ≤ k ∧ k ≤ 11) → good s (rt s f m p) = good s (rd s f m p) := by
  intro f
  induction f with
  | zero => intro m p _; rfl
  | succ f ih =>
    intro m p hm
    have hrest : ∀ (k : Int) (n : Nat) (j : Nat), 5 ≤ k → k ≤ 11 → good s (if k = 11 ∧ atV s j = 41 then some ((11, n, [], []), j + 1) else rt s f (some (k, n, [])) j) =
        good s (if peekV s j 41 = true then rdEnd s k n [] j else rd s f (some (k, n, [])) j) := by
      intro k n j h5 h11
      rw [show (41 : Int) = ((41 : Nat) : Int) from rfl, peek_at s j 41 (by decide)]
      by_cases h41 : atV s j = 41
      · rw [if_pos (show decide (atV s j = 41) = true from decide_eq_true h41)]
        unfold rdEnd
        rw [show (41 : Int) = ((41 : Nat) : Int) from rfl, peek_at s j 41 (by decide), if_pos (decide_eq_true h41)]
        rw [show (([] : List ByteArray).length : Int) = 0 from rfl, fits_zero h5 h11]
        by_cases h : k = 11
        · subst h; rw [if_pos ⟨rfl, h41⟩, if_pos (by decide)]
        · rw [if_neg (by rintro ⟨a, _⟩; exact h a), if_neg (by rw [decide_eq_false h]; decide), rt_close s f k n j h41]
      · rw [if_neg (by rintro ⟨_, a⟩; exact h41 a), if_neg (by rw [decide_eq_false h41]; decide)]
        exact ih _ _ (by intro k' n' l' e; cases e; exact ⟨h5, h11⟩)
    cases m with
    | none =>
      rw [rt, rd]
      by_cases hp : p < s.size
      · have hat : atV s p = s[p].toNat := by unfold atV; rw [dif_pos hp]
        rw [dif_pos hp, hat]
        have hkr := kind_le (s[p].toNat : Int)
        generalize kindV (s[p].toNat : Int) = k at *
        by_cases h0 : k = 0
        · rw [if_pos h0, if_pos h0]
        rw [if_neg h0, if_neg h0]
        by_cases h4 : k ≤ 4
        · rw [if_pos h4]
          unfold leafV
          by_cases h1 : k = 1
          · rw [if_pos h1, if_pos h1]
          rw [if_neg h1, if_neg h1]
          have ww := word_two s (p + 1)
          by_cases h23 : k = 2 ∨ k = 3
          · rw [if_pos h23, if_neg (by omega)]
            rcases ww with ⟨a, b⟩ | ⟨a, b⟩
            · rw [a]
              try (cases numK k (s.extract (p + 1) (wend s (p + 1))).data.toList <;> rfl)
            · rw [numK_bad40 a]
              simp only
              cases numK k (s.extract (p + 1) (wend s (p + 1))).data.toList with
              | none => rfl
              | some n => unfold good; simp only; rw [if_pos b]
          · have h4' : k = 4 := by omega
            rw [if_neg h23, if_pos h4', if_pos h4']
            rcases ww with ⟨a, b⟩ | ⟨a, b⟩
            · rw [a]
            · rw [if_neg (hexR_bad40 a)]
              split
              · unfold good; simp only; rw [if_pos b]
              · rfl
        rw [if_neg h4, if_neg (show ¬ k = 1 by omega), if_neg (show ¬ (k = 2 ∨ k = 3) by omega), if_neg (show ¬ k = 4 by omega)]
        rw [show (40 : Int) = ((40 : Nat) : Int) from rfl, peek_at s (p + 1) 40 (by decide)]
        by_cases h40 : atV s (p + 1) = 40
        · rw [if_neg (show ¬ (atV s (p + 1) ≠ 40) by rw [h40]; simp), if_neg (show ¬ (decide (atV s (p + 1) = 40) = false) by rw [decide_eq_true h40]; decide)]
          have hnb : numberedV k = decide (k = 8 ∨ k = 10) := by
            unfold numberedV
            rw [Bool.eq_iff_iff]
            simp
            omega
          rw [hnb]
          by_cases h8 : k = 8 ∨ k = 10
          · rw [if_pos h8, if_pos (decide_eq_true h8)]
            rcases word_two s (p + 2) with ⟨a, b⟩ | ⟨a, b⟩
            · rw [a]
              cases numK k (s.extract (p + 2) (wend s (p + 2))).data.toList with
              | none => rfl
              | some n =>
                simp only
                rw [show (44 : Int) = ((44 : Nat) : Int) from rfl, peek_at s _ 44 (by decide)]
                by_cases h44 : atV s (wend s (p + 2)) = 44
                · rw [if_neg (by rw [h44]; simp), if_neg (by rw [decide_eq_true h44]; decide)]
                  have h := hrest k n (wend s (p + 2) + 1) (by omega) (by omega)
                  rw [if_neg (by omega)] at h
                  exact h
                · rw [if_pos h44, if_pos (decide_eq_false h44)]
            · rw [numK_bad40 a]
              simp only
              cases numK k (s.extract (p + 2) (wend s (p + 2))).data.toList with
              | none => rfl
              | some n =>
                simp only
                rw [show (44 : Int) = ((44 : Nat) : Int) from rfl, peek_at s _ 44 (by decide), if_pos (by rw [b]; decide)]
          · rw [if_neg h8, if_neg (show ¬ (decide (k = 8 ∨ k = 10) = true) by rw [decide_eq_false h8]; decide)]
            exact hrest k 0 (p + 2) (by omega) (by omega)
        · rw [if_pos h40, if_pos (decide_eq_false h40)]
      · have hat : atV s p = 0 := by unfold atV; rw [dif_neg hp]
        rw [dif_neg hp, hat, if_pos (by decide)]
    | some kp =>
      obtain ⟨k, n, parts⟩ := kp
      obtain ⟨h5, h11⟩ := hm _ _ _ rfl
      have h0 := ih none p (by intro _ _ _ e; cases e)
      rw [rt, rd_some]
      cases hg : good s (rd s f none p) with
      | none =>
        rw [hg] at h0
        have hA : ∀ x, good s x = none → x = none ∨ ∃ nd q, x = some (nd, q) ∧ atV s q = 40 := by
          intro x hx
          cases x with
          | none => exact .inl rfl
          | some y =>
            obtain ⟨nd, q⟩ := y
            right
            refine ⟨nd, q, rfl, ?_⟩
            unfold good at hx
            simp only at hx
            split at hx
            · assumption
            · cases hx
        have e1 : good s (match rd s f none p with
            | none => none
            | some (_, q) =>
              if k = 6 ∧ parts.length = 1 ∧ gtB (parts.getLastD ByteArray.empty) (s.extract p q) = true then none
              else if peekV s q 44 = true then rd s f (some (k, n, parts ++ [s.extract p q])) (q + 1)
              else rdEnd s k n (parts ++ [s.extract p q]) q) = none := by
          rcases hA _ hg with h | ⟨nd, q, h, hq⟩
          · rw [h]; rfl
          · rw [h]
            simp only
            split
            · rfl
            · rw [show (44 : Int) = ((44 : Nat) : Int) from rfl, peek_at s q 44 (by decide), if_neg (by rw [hq]; decide)]
              unfold rdEnd
              rw [show (41 : Int) = ((41 : Nat) : Int) from rfl, peek_at s q 41 (by decide), if_neg (by rw [hq]; decide)]
              rfl
        refine Eq.trans ?_ e1.symm
        rcases hA _ h0 with h | ⟨nd, q, h, hq⟩
        · rw [h]; rfl
        · rw [h]; simp only; rw [if_neg (show ¬ atV s q = 41 by rw [hq]; decide), if_pos (show atV s q ≠ 44 by rw [hq]; decide)]; rfl
      | some y =>
        obtain ⟨nd, q⟩ := y
        rw [hg] at h0
        obtain ⟨e1, hq⟩ := good_some h0
        obtain ⟨e2, _⟩ := good_some hg
        rw [e1, e2]
        simp only
        unfold rdEnd
        rw [show (44 : Int) = ((44 : Nat) : Int) from rfl, show (41 : Int) = ((41 : Nat) : Int) from rfl, peek_at s q 44 (by decide), peek_at s q 41 (by decide)]
        have hlen : (parts ++ [s.extract p q]).length = parts.length + 1 := by simp
        rw [hlen, fits_right h5 h11 (by omega)]
        by_cases hgt : k = 6 ∧ parts.length = 1 ∧ gtB (parts.getLastD ByteArray.empty) (s.extract p q) = true
        · rw [if_pos hgt]
          obtain ⟨rfl, hl, hgt⟩ := hgt
          obtain ⟨a, rfl⟩ : ∃ a, parts = [a] := by
            cases parts with
            | nil => simp at hl
            | cons a r => cases r with
              | nil => exact ⟨a, rfl⟩
              | cons b r => simp at hl
          rw [(last_two a _).1, (last_two a _).2]
          rw [if_neg (show ¬ (rightR 6 _ = true ∧ _) by rintro ⟨_, h⟩; exact h ⟨rfl, hgt⟩), rt_long s f n _ _ (by simp)]
          split
          · rfl
          · split <;> rfl
        · rw [if_neg hgt]
          by_cases h41 : atV s q = 41
          · rw [if_pos h41, if_neg (show ¬ (decide (atV s q = 44) = true) by rw [h41]; decide), if_pos (show decide (atV s q = 41) = true by rw [h41]; decide)]
            by_cases hr : rightR k ((parts.length + 1 : Nat) : Int) = true
            · rw [if_pos hr, if_pos]
              refine ⟨hr, ?_⟩
              rintro ⟨rfl, hh⟩
              have hl := of_decide_eq_true (show decide (((parts.length + 1 : Nat) : Int) = 2) = true from hr)
              obtain ⟨a, rfl⟩ : ∃ a, parts = [a] := by
                cases parts with
                | nil => simp at hl
                | cons a r => cases r with
                  | nil => exact ⟨a, rfl⟩
                  | cons b r => simp at hl; omega
              rw [(last_two a _).1, (last_two a _).2] at hh
              exact hgt ⟨rfl, rfl, hh⟩
            · rw [if_neg hr, if_neg (by rintro ⟨h, _⟩; exact hr h)]
          · rw [if_neg h41]
            by_cases h44 : atV s q = 44
            · rw [if_neg (by rw [h44]; simp), if_pos (decide_eq_true h44)]
              exact ih _ _ (by intro k' n' l' e; cases e; exact ⟨h5, h11⟩)
            · rw [if_pos h44, if_neg (show ¬ (decide (atV s q = 44) = true) by rw [decide_eq_false h44]; decide), if_neg (show ¬ (decide (atV s q = 41) = true) by rw [decide_eq_false h41]; decide)]
/-- What the reference reads as a term as a whole. -/
theorem rt_parse (s : ByteArray) (f : Nat) : (match rt s f none 0 with | none => none | some (nd, q) => if q = s.size then some nd else none) = (match rd s f none 0 with | none => (none : Option Nd) | some (nd, q) => if q = s.size then some nd else none) := by
  have h := good_rt s f none 0 (by intro _ _ _ e; cases e)
  have key : ∀ x : Option (Nd × Nat), (match x with | none => (none : Option Nd) | some (nd, q) => if q = s.size then some nd else none) = (match good s x with | none => none | some (nd, q) => if q = s.size then some nd else none) := by
    intro x
    cases x with
    | none => rfl
    | some y =>
      obtain ⟨nd, q⟩ := y
      unfold good
      simp only
      by_cases hq : atV s q = 40
      · rw [if_pos hq]
        simp only
        rw [if_neg]
        intro e
        have := at_lt (s := s) (p := q) (by rw [hq]; decide)
        omega
      · rw [if_neg hq]
  refine (key _).trans (Eq.trans ?_ (key _).symm)
  rw [h]
end
end Go.Proofs.YteoifokmbkpbnaaDoor

/-
  Contract of sky's Turned of a right route, by walking.
-/
import Derived.Test.YtkihjgcjapkgpaaSkyE
namespace Go.Proofs.Ytkihjgcjapkgpaa
open Go.RowKit Go.Deep

theorem tmod_seven (q : Int) : q.tmod 4 = 0 ∨ q.tmod 4 = 1 ∨ q.tmod 4 = 2 ∨ q.tmod 4 = 3 ∨ q.tmod 4 = -1 ∨ q.tmod 4 = -2 ∨ q.tmod 4 = -3 := by
  have := tmod_four q
  omega

theorem own_block_lt {w : World} {base e size n : Nat} {v : Value} {xs : List Value} (h : w.ownsRow base e size v n xs) {j : Nat} (hj : v.ownBlock = some j) : j < w.heap.size := by
  rcases h.2 with ⟨h1, _⟩ | ⟨g3, cap3, cur, h1, hg3, hh, _⟩
  · subst h1; cases hj
  · subst h1; injection hj with hj; subst hj; exact Blk.lt (t := e) (cs := cur) hh
theorem turn_one {q : Int} {r : Nat} (h : (q % 4).toNat = r) : turnV (1, 0) q = turnN (1, 0) r := by unfold turnV; rw [h]

set_option maxRecDepth 100000 in
set_option maxHeartbeats 6400000 in
theorem turned_ok (w : World) (N : List Nat) (v : Value) (s : Int × Int) (l : List Lg) (q : Int) (hv : RdS 3 lgc w N v l) (hl : l.length ≤ 1000) (hfit : ∀ g ∈ l, Fit3 g) (hsf : Fit s) (hr : routesV s l = true) :
    Calls Try.prog 21 #[.agg #[.int .i64 s.1, .int .i64 s.2, v], .int .i64 q] w (RtPost (turnV s q) (turnL q l) w) := by
  obtain ⟨i0, hi, hz0, hz1, hz2⟩ := info_parts Try.infoLeg
  have HRR := hide (show ∀ W, Only [] w W → _ from fun W ho => route_right W N v s l (hv.only ho (by simp)) hl hfit hsf)
  obtain ⟨A, cap, rfl, hc, hm⟩ := hv.form
  unfold maxLen at hm
  have HV := hide hv
  obtain ⟨n, hn⟩ : ∃ n, n = l.length := ⟨_, rfl⟩
  have HN := hide hn
  rw [← hn] at hl hc HV HRR ⊢
  have HLG := hide (routes_pos hr).1
  have HSB := hide (okP_bd (routes_lok hr).1)
  have HRV := hide hr
  have HR := hide ((Blk.new (w.alloc (.cells #[.int .i64 s.1, .int .i64 s.2, .slice A n cap] 41)) 41 #[.int .i64 0, .int .i64 0, .slice none 0 0]))
  rw [World.size_alloc] at HR
  have HB := hide ((Blk.new w 41 #[.int .i64 s.1, .int .i64 s.2, .slice A n cap]).alloc (.cells #[.int .i64 0, .int .i64 0, .slice none 0 0] 41))
  have HO := hide (((Only.refl [] w).alloc (.cells #[.int .i64 s.1, .int .i64 s.2, .slice A n cap] 41)).alloc (.cells #[.int .i64 0, .int .i64 0, .slice none 0 0] 41))
  have hseven := tmod_seven q
  have HQQ := hide (tmod_four q)
  have hst := fun (W : World) (a : Addr) (x y : Nat) => (run_store Try.prog W a (Value.complex .f64 x y) .plain rfl : (store a (Value.complex .f64 x y)).run Try.prog W = stored Try.prog W a (Value.complex .f64 x y) .plain)
  clear hv hn hr hfit hsf
  go_enter Try.func21, Try.ntmps21
  go_upto_region 3 with (go_at_call 23; refine (HRR.out _ HO.out).mono ?_; rintro e w1 ⟨rfl, ho⟩; have HO1 := hide (HO.out.trans ho); have HR1 := hide (HR.out.only ho (by simp)); have HB1 := hide (HB.out.only ho (by simp)); rw [HRV.out]; clear ho)
  go_upto_region 4 with (fail)
  go_cut [7] (fun tc w' => Hid (Cx tc (turnV (1, 0) q).1 (turnV (1, 0) q).2) ∧ Hid (Only [] w1 w'))
  case first =>
    have h1 := HQQ.out
    rcases hseven with h | h | h | h | h | h | h
    · have HT := hide (turn_one (q := q) (r := 0) (by omega))
      clear h1
      go_wp2_with fail
      go_meet
      refine ⟨hide ?_, hide ((Only.refl [] _).alloc _)⟩
      rw [HT.out]
      exact ⟨_, _, rfl, fi_one, fi_zero⟩
    · have HT := hide (turn_one (q := q) (r := 1) (by omega))
      clear h1
      go_wp2_with fail
      go_meet
      refine ⟨hide ?_, hide ((Only.refl [] _).alloc _)⟩
      rw [HT.out]
      exact ⟨_, _, rfl, fi_zero, fi_one⟩
    · have HT := hide (turn_one (q := q) (r := 2) (by omega))
      clear h1
      go_wp2_with fail
      go_meet
      refine ⟨hide ?_, hide ((Only.refl [] _).alloc _)⟩
      rw [HT.out]
      exact ⟨_, _, rfl, fi_neg, fi_zero⟩
    · have HT := hide (turn_one (q := q) (r := 3) (by omega))
      clear h1
      go_wp2_with fail
      go_meet
      refine ⟨hide ?_, hide ((Only.refl [] _).alloc _)⟩
      rw [HT.out]
      exact ⟨_, _, rfl, fi_zero, fi_neg⟩
    · have HT := hide (turn_one (q := q) (r := 3) (by omega))
      clear h1
      go_wp2_with fail
      go_meet
      refine ⟨hide ?_, hide ((Only.refl [] _).alloc _)⟩
      rw [HT.out]
      exact ⟨_, _, rfl, fi_zero, fi_neg⟩
    · have HT := hide (turn_one (q := q) (r := 2) (by omega))
      clear h1
      go_wp2_with fail
      go_meet
      refine ⟨hide ?_, hide ((Only.refl [] _).alloc _)⟩
      rw [HT.out]
      exact ⟨_, _, rfl, fi_neg, fi_zero⟩
    · have HT := hide (turn_one (q := q) (r := 1) (by omega))
      clear h1
      go_wp2_with fail
      go_meet
      refine ⟨hide ?_, hide ((Only.refl [] _).alloc _)⟩
      rw [HT.out]
      exact ⟨_, _, rfl, fi_zero, fi_one⟩
  case rest =>
    clear hseven hst
    obtain ⟨htc, ho⟩ := hcut
    have HR2 := hide (HR1.out.only ho.out (by simp))
    have HB2 := hide (HB1.out.only ho.out (by simp))
    have HO2 := hide (HO1.out.trans ho.out)
    have k0 := HB2.out.cell 0
    have k1 := HB2.out.cell 1
    simp at k0 k1
    have HN1 := hide (show ∀ W, _ from fun W => number_any W s.1 s.2 (by have := HSB.out; omega) (by have := HSB.out; omega))
    have HT1 := hide (show ∀ d, Cx d s.1 s.2 → _ from fun d hd => cx_turn hd htc.out (by have := HSB.out; omega) (by have := HSB.out; omega))
    have hbd := turn_bd (x := s.1) (y := s.2) (q := q) (B := 16777216) (by have := HSB.out; omega) (by have := HSB.out; omega)
    have HP1 := hide (show ∀ W c, Cx c (turnV (s.1, s.2) q).1 (turnV (s.1, s.2) q).2 → _ from fun W c hc => point_any W c _ _ hc (by omega) (by omega))
    clear hbd
    go_upto_region 6 with (first
      | (go_at_call 40; refine (HN1.out _).mono ?_; rintro e w3 ⟨c3, rfl, hc3, ho3⟩; obtain ⟨cm, hcm, hct⟩ := HT1.out _ hc3; have HCT := hide hct; have HR3 := hide (HR2.out.only ho3 (by simp)); have HB3 := hide (HB2.out.only ho3 (by simp)); have HO3 := hide (HO2.out.trans ho3); clear hc3 hct ho3)
      | (go_at_call 43; refine (HP1.out _ _ HCT.out).mono ?_; rintro e w4 ⟨rfl, ho4⟩; have HR4 := hide (HR3.out.only ho4 (by simp)); have HB4 := hide (HB3.out.only ho4 (by simp)); have HO4 := hide (HO3.out.trans ho4); clear ho4))
    have HB5 := Blk.new w4 41 #[.int .i64 (turnV (s.1, s.2) q).1, .int .i64 (turnV (s.1, s.2) q).2, .slice none 0 0]
    obtain ⟨b, hb⟩ : ∃ b, b = w4.heap.size := ⟨_, rfl⟩
    have hb1 : w.heap.size + 1 < b := by rw [hb]; exact HR4.out.lt
    have HT0 := hide (show TnW w b s (turnV (s.1, s.2) q) A n cap (turnL q l) 0 (.slice none 0 0) (w4.alloc (.cells #[.int .i64 (turnV (s.1, s.2) q).1, .int .i64 (turnV (s.1, s.2) q).2, .slice none 0 0] 41)) from
      ⟨HB4.out.alloc _, HR4.out.alloc _, by rw [hb]; exact HB5, ⟨rfl, .inl ⟨rfl, rfl⟩⟩, HO4.out.alloc _, hb1⟩)
    rw [← hb]
    clear hb HB5 k0 k1
    generalize (w4.alloc (.cells #[.int .i64 (turnV (s.1, s.2) q).1, .int .i64 (turnV (s.1, s.2) q).2, .slice none 0 0] 41)) = w5 at *
    have j2 := HT0.out.rt.cell 2
    simp at j2
    go_wp2_with fail
    clear j2
    go_loopw [32] (fun i wr => ∃ (k : Nat) (v : Value), k ≤ n ∧ i = .int .i64 k ∧ Hid (TnW w b s (turnV (s.1, s.2) q) A n cap (turnL q l) k v wr)) (fun i _ => n - (intOf i).toNat)
    case atStart => exact ⟨0, _, Nat.zero_le _, rfl, HT0⟩
    case round =>
      obtain ⟨k, v, hk, rfl, hT⟩ := hrel
      obtain ⟨Av, cv, rfl, _, _⟩ := own_form hT.out.own
      by_cases hlt : k < n
      · have hlt' : (k : Int) < n := by omega
        have hkl := hide (show k < l.length by rw [← HN.out]; exact hlt)
        obtain ⟨g, o, rfl, _, hg⟩ := HV.out.addr (by rw [← HN.out]; omega)
        obtain ⟨c1, c2, c3⟩ := lgs_cell (HV.out.only hT.out.only (by simp)) hkl.out
        have hlg := legOk_bd (HLG.out k hkl.out)
        have HTK := hide (show (turnL q l).take (k + 1) = (turnL q l).take k ++ [turnG q (l.getD k zg)] by
          have h := take_succ_getD (turnL q l) zg (k := k) (by unfold turnL; rw [List.length_map]; exact hkl.out)
          rw [h]
          unfold turnL
          rw [List.getD_eq_getElem?_getD, List.getElem?_map, get_lt l zg hkl.out]
          rfl)
        generalize l.getD k zg = x at *
        obtain ⟨x1, x2, x3⟩ := x
        simp only at c1 c2 c3 hlg
        have HNU := hide (show ∀ W, _ from fun W => number_any W x1 x2 (by omega) (by omega))
        have HTU := hide (show ∀ d, Cx d x1 x2 → _ from fun d hd => cx_turn hd htc.out (by omega) (by omega))
        have hbd := turn_bd (x := x1) (y := x2) (q := q) (B := 1000) hlg.1 hlg.2.1
        have HPO := hide (show ∀ W c, Cx c (turnV (x1, x2) q).1 (turnV (x1, x2) q).2 → _ from fun W c hc => point_any W c _ _ hc (by omega) (by omega))
        have HBL := hide (Blk.new wr 83 #[.int .i64 x1, .int .i64 x2, .int .i64 x3])
        have HTL := hide (hT.out.quiet ((Only.refl [] wr).alloc (.cells #[.int .i64 x1, .int .i64 x2, .int .i64 x3] 83)))
        have HROW := hide (show ∀ j, (Value.slice Av k cv).ownBlock = some j → j < wr.heap.size from fun j hj => own_block_lt hT.out.own hj)
        have hbw : b < wr.heap.size := hT.out.b8.lt
        have HBW := hide hbw
        clear hlg hbd hbw
        go_upto_region 9 with (fail)
        generalize (wr.alloc (.cells #[.int .i64 x1, .int .i64 x2, .int .i64 x3] 83)) = wl at *
        have z0 := HBL.out.cell 0
        have z1 := HBL.out.cell 1
        have z2 := HBL.out.cell 2
        have j2 := HTL.out.b8.cell 2
        simp at z0 z1 z2 j2
        have hll : wr.heap.size < wl.heap.size := HBL.out.lt
        go_region_law (first
          | (refine step_append_any _ rfl (.tmp 37) (.tmp 47) 39 rfl (b + 1) 83 i0 (.agg #[.int .i64 0, .int .i64 0, .int .i64 0]) 3 24 Try.underlying39 hi hz0 hz1 hz2 rfl (by decide) _ k _ rfl HTP.out.own _ _ 1 1 (lgc (turnG q (x1, x2, x3))) rfl HRN.out (by simp [lgc, Value.oneCell']) (by unfold maxLen; omega) (by omega) (Nat.succ_le_of_lt HTP.out.b8.lt) ?_; intro v1 w6 hown1 hg1 _; obtain ⟨A1, c1', rfl, _, _⟩ := own_form hown1; have HG := hide (TnW.grew HTP.out hg1 hown1 HTK.out); have hB6 := HTP.out.b8.grown hg1 (fun e => by have := own_block_ge HTP.out.own e.symm; omega); have l2 := hB6.cell 2; have lz := hB6.frozen; simp at l2; clear hown1 hg1 hB6)
          | (go_simp; go_at_call 40; refine (HNU.out _).mono ?_; rintro e wA ⟨cA, rfl, hcA, ho⟩; have HCA := hide (((Only.refl [] wl).drew).trans ho); obtain ⟨cm, hcm, hct⟩ := HTU.out _ hcA; have HCT := hide hct; have hBA := HBL.out.only HCA.out (by simp); have y0 := hBA.cell 0; have y1 := hBA.cell 1; have y2 := hBA.cell 2; have jA := (HTL.out.quiet HCA.out).b8.cell 2; simp at y0 y1 y2 jA; clear hcA hct ho hBA)
          | (go_simp; go_at_call 43; refine (HPO.out _ _ HCT.out).mono ?_; rintro e wP ⟨rfl, ho⟩; have HCP := hide (HCA.out.trans ho); have HLP := hide ((Only.refl [] wP).alloc (.cells #[.int .i64 (turnV (x1, x2) q).1, .int .i64 (turnV (x1, x2) q).2, .int .i64 x3] 83)); have HTP := hide ((HTL.out.quiet HCP.out).quiet HLP.out); have hBA := HBL.out.only HCP.out (by simp); have y0 := hBA.cell 0; have y1 := hBA.cell 1; have y2 := hBA.cell 2; have jP := (HTL.out.quiet HCP.out).b8.cell 2; have jQ := HTP.out.b8.cell 2; have hBQ := hBA.only HLP.out (by simp); have q0 := hBQ.cell 0; have q1 := hBQ.cell 1; have q2 := hBQ.cell 2; simp at y0 y1 y2 jP jQ q0 q1 q2; have HRN := hide (reads_new wP 83 (lgc (turnG q (x1, x2, x3))) (wP.heap.size + 1) 3 rfl (Nat.lt_succ_self _)); clear ho hBA hBQ))
        all_goals
          go_wp2_with fail
          go_roundw
          case rel => exact ⟨k + 1, _, by omega, by go_num, HG⟩
          case measure => simp [intOf]; omega
      · have hlt' : ¬ (k : Int) < n := by omega
        obtain rfl : k = n := by omega
        have HR := hide (RdS.of_own (N := [w.heap.size + 1]) lgc_len (by omega) hT.out.own (by have := hT.out.lt; simp; omega)).1
        rw [show (turnL q l).take k = turnL q l by rw [HN.out]; unfold turnL; rw [List.take_of_length_le (by simp)]] at HR
        have k0 := hT.out.b8.cell 0
        have k1 := hT.out.b8.cell 1
        have k2 := hT.out.b8.cell 2
        have r0 := hT.out.res.cell 0
        have r1 := hT.out.res.cell 1
        have r2 := hT.out.res.cell 2
        have rz := hT.out.res.frozen
        simp at k0 k1 k2 r0 r1 r2
        go_wp2_with fail
        refine bodyPost_ret (v := .tuple #[.agg #[.int .i64 (turnV s q).1, .int .i64 (turnV s q).2, .slice Av k cv], .int .i64 0]) ?_ rfl ⟨_, rfl, ?_, ?_⟩
        · simp [results, Try.results21, go_sem, r0, r1, r2]
        · exact HR.out.only (S := [w.heap.size + 1]) ((((Only.refl _ wr).setCell (p := ⟨w.heap.size + 1, 0, none⟩) (.inl (by simp)) _).setCell (p := ⟨w.heap.size + 1, 1, none⟩) (.inl (by simp)) _).setCell (p := ⟨w.heap.size + 1, 2, none⟩) (.inl (by simp)) _) (by simp) |>.more (by simp)
        · exact ((hT.out.only.setCell (p := ⟨w.heap.size + 1, 0, none⟩) (.inr (by simp)) _).setCell (p := ⟨w.heap.size + 1, 1, none⟩) (.inr (by simp)) _).setCell (p := ⟨w.heap.size + 1, 2, none⟩) (.inr (by simp)) _
end Go.Proofs.Ytkihjgcjapkgpaa

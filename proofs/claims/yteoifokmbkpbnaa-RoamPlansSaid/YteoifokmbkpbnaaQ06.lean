/-
  Walks and plain words (texts SkyD). No condition beyond those that each theorem states.
-/
import Derived.Test.YteoifokmbkpbnaaQ05
namespace Go.Proofs.Yteoifokmbkpbnaa
section
open Go.RowKit Go.Deep

def PtcPost (p : Int × Int) (c : Int) (w : World) (e : Ending) (w' : World) : Prop := e = .returned (.tuple #[pt p, .int .i64 c]) ∧ Only [] w w'

set_option maxRecDepth 100000 in
set_option maxHeartbeats 1600000 in
theorem at_bad (w : World) (N : List Nat) (v : Value) (s : Int × Int) (l : List Lg) (T : Int) (hv : RdS 3 lgc w N v l) (hl : l.length ≤ 1000) (hfit : ∀ g ∈ l, Fit3 g) (hsf : Fit s) (hb : routesV s l = false ∨ T < 0) :
    Calls Try.prog 46 #[.agg #[.int .i64 s.1, .int .i64 s.2, v], .int .i64 T] w (PtcPost (0, 0) (if routesV s l then 2 else 3) w) := by
  have HRR := hide (show ∀ W, Only [] w W → _ from fun W ho => route_right W N v s l (hv.only ho (by simp)) hl hfit hsf)
  obtain ⟨A, cap, rfl, hc, hm⟩ := hv.form
  generalize l.length = n at *
  have HR := hide ((Blk.new (w.alloc (.cells #[.int .i64 s.1, .int .i64 s.2, .slice A n cap] 98)) 95 #[.int .i64 0, .int .i64 0]))
  rw [World.size_alloc] at HR
  have HO := hide (((Only.refl [] w).alloc (.cells #[.int .i64 s.1, .int .i64 s.2, .slice A n cap] 98)).alloc (.cells #[.int .i64 0, .int .i64 0] 95))
  clear hv hfit hsf hl
  cases hrv : routesV s l with
  | false =>
    have HRV := hide hrv
    clear hrv hb
    go_enter Try.func46, Try.ntmps46
    go_wp2_with fail
    go_step3
    go_wp2_with (go_at_call 48; refine (HRR.out _ HO.out).mono ?_; rintro e w1 ⟨rfl, ho⟩; have HO1 := hide (HO.out.trans ho); have hR1 := HR.out.only ho (by simp); have r0 := hR1.cell 0; have r1 := hR1.cell 1; have rz := hR1.frozen; simp at r0 r1; rw [HRV.out]; clear ho hR1)
    rw [Exit.noGoto_ret]
    refine bodyPost_ret (v := .tuple #[.agg #[.int .i64 0, .int .i64 0], .int .i64 3]) ?_ rfl ⟨rfl, ?_⟩
    · simp [results, Try.results46, go_sem, r0, r1]
    · exact (HO1.out.setCell (p := ⟨w.heap.size + 1, 0, none⟩) (.inr (by simp)) _).setCell (p := ⟨w.heap.size + 1, 1, none⟩) (.inr (by simp)) _
  | true =>
    have hT := hb.resolve_left (by rw [hrv]; simp)
    have HRV := hide hrv
    clear hrv hb
    go_enter Try.func46, Try.ntmps46
    go_wp2_with fail
    go_step3
    go_wp2_with (go_at_call 48; refine (HRR.out _ HO.out).mono ?_; rintro e w1 ⟨rfl, ho⟩; have HO1 := hide (HO.out.trans ho); have hR1 := HR.out.only ho (by simp); have r0 := hR1.cell 0; have r1 := hR1.cell 1; have rz := hR1.frozen; simp at r0 r1; rw [HRV.out]; clear ho hR1)
    rw [Exit.noGoto_ret]
    refine bodyPost_ret (v := .tuple #[.agg #[.int .i64 0, .int .i64 0], .int .i64 2]) ?_ rfl ⟨rfl, ?_⟩
    · simp [results, Try.results46, go_sem, r0, r1]
    · exact (HO1.out.setCell (p := ⟨w.heap.size + 1, 0, none⟩) (.inr (by simp)) _).setCell (p := ⟨w.heap.size + 1, 1, none⟩) (.inr (by simp)) _

/-- What holds at the label. -/
structure AtW (w : World) (s : Int × Int) (l : List Lg) (T k : Nat) (A : Option Addr) (n cap : Nat) (c : Value) (wr : World) : Prop where
  cx : Cx c (atK s l T k).1 (atK s l T k).2
  rt : Blk wr w.heap.size 98 #[.int .i64 s.1, .int .i64 s.2, .slice A n cap]
  res : Blk wr (w.heap.size + 1) 95 #[.int .i64 0, .int .i64 0]
  only : Only [] w wr
theorem AtW.quiet {w wr w' : World} {s : Int × Int} {l : List Lg} {T k : Nat} {A : Option Addr} {n cap : Nat} {c : Value} (h : AtW w s l T k A n cap c wr) (ho : Only [] wr w') : AtW w s l T k A n cap c w' :=
  ⟨h.cx, h.rt.only ho (by simp), h.res.only ho (by simp), h.only.trans ho⟩

def AtLoop (w : World) (s : Int × Int) (l : List Lg) (T : Nat) (A : Option Addr) (n cap : Nat) (a' : Act) (w' : World) : Prop :=
  ∃ (k : Nat) (c : Value) (u3 u8 u9 u10 u11 u12 u13 u14 u15 u16 u17 u18 u19 u20 u21 u22 u23 u24 u25 u26 u27 u28 u29 u30 u31 u32 u33 u34 u35 u36 u37 u38 u39 u40 u41 u42 u43 u44 u45 u46 u47 u48 u49 u50 u51 u52 u53 : Value), (∃ t z : Int, a' = ⟨#[.agg #[.int .i64 s.1, .int .i64 s.2, .slice A n cap], .int .i64 t, .pointer (some ⟨w.heap.size, 0, none⟩), u3, .pointer (some ⟨w.heap.size + 1, 0, none⟩), .int .i64 0, c, .int .i64 z, u8, u9, u10, u11, u12, u13, u14, u15, u16, u17, u18, u19, u20, u21, u22, u23, u24, u25, u26, u27, u28, u29, u30, u31, u32, u33, u34, u35, u36, u37, u38, u39, u40, u41, u42, u43, u44, u45, u46, u47, u48, u49, u50, u51, u52, u53], []⟩ ∧ t = (T - tot l k : Nat) ∧ z = (k : Nat)) ∧ k ≤ n ∧ AtW w s l T k A n cap c w'

set_option maxRecDepth 100000 in
set_option maxHeartbeats 6400000 in
theorem route_at (w : World) (N : List Nat) (v : Value) (s : Int × Int) (l : List Lg) (T : Nat) (hv : RdS 3 lgc w N v l) (hl : l.length ≤ 1000) (hfit : ∀ g ∈ l, Fit3 g) (hsf : Fit s) (hr : routesV s l = true) (hT : T ≤ 9223372036854775807) :
    Calls Try.prog 46 #[.agg #[.int .i64 s.1, .int .i64 s.2, v], .int .i64 T] w (PtcPost (atV s l T) 0 w) := by
  have HRR := hide (show ∀ W, Only [] w W → _ from fun W ho => route_right W N v s l (hv.only ho (by simp)) hl hfit hsf)
  obtain ⟨A, cap, rfl, hc, hm⟩ := hv.form
  unfold maxLen at hm
  have HV := hide hv
  obtain ⟨n, hn⟩ : ∃ n, n = l.length := ⟨_, rfl⟩
  have HN := hide hn
  rw [← hn] at hl hc HV HRR ⊢
  have HLG := hide (routes_pos hr).1
  have HPO := hide (fun k hk => atK_ok hr T (k := k) hk)
  have HRV := hide hr
  have HSB := hide (okP_bd (routes_lok hr).1)
  have HT := hide hT
  have hT' : (T : Int) ≤ 9223372036854775807 := by omega
  clear hv hn hr hfit hsf hT
  go_enter Try.func46, Try.ntmps46
  go_wp2_with fail
  refine wp_scope_jumps 0 (AtLoop w s l T A n cap) (fun a' _ => n - (intOf (a'.tmps.getD 7 undef)).toNat) rfl ?_ ?_
  · have HR := hide ((Blk.new (w.alloc (.cells #[.int .i64 s.1, .int .i64 s.2, .slice A n cap] 98)) 95 #[.int .i64 0, .int .i64 0]))
    rw [World.size_alloc] at HR
    have HB := hide ((Blk.new w 98 #[.int .i64 s.1, .int .i64 s.2, .slice A n cap]).alloc (.cells #[.int .i64 0, .int .i64 0] 95))
    have HO := hide (((Only.refl [] w).alloc (.cells #[.int .i64 s.1, .int .i64 s.2, .slice A n cap] 98)).alloc (.cells #[.int .i64 0, .int .i64 0] 95))
    go_upto_region 6 with (first
      | (go_at_call 48; refine (HRR.out _ HO.out).mono ?_; rintro e w1 ⟨rfl, ho⟩; have HO1 := hide (HO.out.trans ho); have HR1 := hide (HR.out.only ho (by simp)); have HB1 := hide (HB.out.only ho (by simp)); have k0 := HB1.out.cell 0; have k1 := HB1.out.cell 1; simp at k0 k1; rw [HRV.out]; clear ho)
      | (go_at_call 60; refine (number_any _ s.1 s.2 (by have := HSB.out; omega) (by have := HSB.out; omega)).mono ?_; rintro e wr ⟨c0, rfl, hc0, ho⟩; have HA := hide (show AtW w s l T 0 A n cap c0 wr from ⟨hc0, HB1.out.only ho (by simp), HR1.out.only ho (by simp), HO1.out.trans ho⟩); clear hc0 ho))
    go_step3
    have k2 := HA.out.rt.cell 2
    simp at k2
    by_cases hgo : 0 < T ∧ 0 < n
    · obtain ⟨hgo1, hgo2⟩ := hgo
      have hkl := hide (show 0 < l.length by rw [← HN.out]; exact hgo2)
      have hgoI : (0 : Int) < (T : Nat) := by omega
      have hgo2I : (0 : Int) < n := by omega
      have hkn : 0 + 1 ≤ n := hgo2
      obtain ⟨g, o, rfl, _, hg⟩ := HV.out.addr (by rw [← HN.out]; omega)
      obtain ⟨c1, c2, c3⟩ := lgs_cell (HV.out.only HA.out.only (by simp)) hkl.out
      simp only [Nat.zero_mul, Nat.add_zero] at c1 c2 c3
      have hlg := legOk_bd (HLG.out 0 hkl.out)
      have hpb := okP_bd (HPO.out 0 (Nat.le_of_lt hkl.out))
      have HSUC := hide (show atK s l T (0 + 1) = ((atK s l T 0).1 + (l.getD 0 zg).1 * (min T (l.getD 0 zg).2.2.toNat : Nat), (atK s l T 0).2 + (l.getD 0 zg).2.1 * (min T (l.getD 0 zg).2.2.toNat : Nat)) from rfl)
      have HTOT := hide (show T - tot l (0 + 1) = T - min T (l.getD 0 zg).2.2.toNat by
        show T - (tot l 0 + (l.getD 0 zg).2.2.toNat) = _
        rw [show tot l 0 = 0 from rfl]
        omega)
      have hcx := HA.out.cx
      have hR : T ≤ 9223372036854775807 := by have := HT.out; omega
      generalize l.getD 0 zg = x at *
      generalize hpp : atK s l T 0 = p at *
      have HPP := hide hpp
      clear hpp
      obtain ⟨x1, x2, x3⟩ := x
      obtain ⟨p1, p2⟩ := p
      simp only at c1 c2 c3 hlg hpb hcx
      have HNUM := hide (show ∀ W, _ from fun W => number_any W x1 x2 (by omega) (by omega))
      have HBL := hide (Blk.new wr 104 #[.int .i64 x1, .int .i64 x2, .int .i64 x3])
      have HOL := hide ((Only.refl [] wr).alloc (.cells #[.int .i64 x1, .int .i64 x2, .int .i64 x3] 104))
      have hx0 : 1 ≤ x3 := hlg.2.2.1
      have hx1 : x3 ≤ 10000 := hlg.2.2.2
      clear hgo1 hgo2
      rcases Int.lt_or_le x3 (T : Int) with hcmp | hcmp
      · have HMI := hide (show ((min T x3.toNat : Nat) : Int) = x3 by omega)
        have HSTEP := hide (show ∀ d, Cx d x1 x2 → _ from fun d hd => cx_step (s := x3) hcx hd hlg.1 hlg.2.1 (by omega) (by omega) hpb.1 hpb.2)
        clear hlg hpb hcx
        go_wp2_with (go_at_call 60; refine (HNUM.out _).mono ?_; rintro e w4 ⟨c4, rfl, hc4, ho4⟩; obtain ⟨mm, ee, hmm, hee, hce⟩ := HSTEP.out _ hc4; have HA5 := hide (show AtW w s l T (0 + 1) (some ⟨g, o, none⟩) n cap ee w4 from ⟨by rw [HSUC.out, HMI.out]; exact hce, (HA.out.quiet (HOL.out.trans ho4)).rt, (HA.out.quiet (HOL.out.trans ho4)).res, (HA.out.quiet (HOL.out.trans ho4)).only⟩); clear hc4 hce ho4)
        try go_step3
        exact ⟨rfl, 0 + 1, ee, _, _, _, _, _, _, _, _, _, _, _, _, _, _, _, _, _, _, _, _, _, _, _, _, _, _, _, _, _, _, _, _, _, _, _, _, _, _, _, _, _, _, _, _, _, _, _, ⟨_, _, rfl, by rw [HTOT.out]; omega, by omega⟩, by omega, HA5.out⟩
      · have HMI := hide (show ((min T x3.toNat : Nat) : Int) = (T : Int) by omega)
        have HSTEP := hide (show ∀ d, Cx d x1 x2 → _ from fun d hd => cx_step (s := (T : Int)) hcx hd hlg.1 hlg.2.1 (by omega) (by omega) hpb.1 hpb.2)
        clear hlg hpb hcx
        go_wp2_with (go_at_call 60; refine (HNUM.out _).mono ?_; rintro e w4 ⟨c4, rfl, hc4, ho4⟩; obtain ⟨mm, ee, hmm, hee, hce⟩ := HSTEP.out _ hc4; have HA5 := hide (show AtW w s l T (0 + 1) (some ⟨g, o, none⟩) n cap ee w4 from ⟨by rw [HSUC.out, HMI.out]; exact hce, (HA.out.quiet (HOL.out.trans ho4)).rt, (HA.out.quiet (HOL.out.trans ho4)).res, (HA.out.quiet (HOL.out.trans ho4)).only⟩); clear hc4 hce ho4)
        try go_step3
        exact ⟨rfl, 0 + 1, ee, _, _, _, _, _, _, _, _, _, _, _, _, _, _, _, _, _, _, _, _, _, _, _, _, _, _, _, _, _, _, _, _, _, _, _, _, _, _, _, _, _, _, _, _, _, _, _, ⟨_, _, rfl, by rw [HTOT.out]; omega, by omega⟩, by omega, HA5.out⟩
    · have HEQ := hide (show atV s l T = atK s l T 0 by
        rcases Nat.eq_zero_or_pos T with h | h
        · exact atK_rest s l T 0 (by rw [show tot l 0 = 0 from rfl]; omega) l.length (by have := HN.out; omega)
        · unfold atV
          rw [show l.length = 0 by have := HN.out; omega])
      have hpb := okP_bd (HPO.out 0 (by have := HN.out; omega))
      have HPT := hide (show ∀ W c, Cx c (atK s l T 0).1 (atK s l T 0).2 → _ from fun W c hc => point_any W c _ _ hc (by omega) (by omega))
      clear hpb
      rcases Nat.eq_zero_or_pos T with h0 | h0
      · have h0' : ¬ (0 : Int) < (T : Nat) := by omega
        have h0'' : decide ((0 : Int) < (T : Nat)) = false := decide_eq_false h0'
        clear hgo h0
        go_wp2_with (go_at_call 62; refine (HPT.out _ _ HA.out.cx).mono ?_; rintro e w5 ⟨rfl, ho⟩; have HA5 := hide (HA.out.quiet ho); have r0 := HA5.out.res.cell 0; have r1 := HA5.out.res.cell 1; have rz := HA5.out.res.frozen; simp at r0 r1; clear ho)
        simp only [Exit.jump]
        refine bodyPost_ret (v := .tuple #[pt (atK s l T 0), .int .i64 0]) ?_ rfl ⟨by rw [HEQ.out], ?_⟩
        · simp [results, Try.results46, go_sem, pt, r0, r1]
        · exact (HA5.out.only.setCell (p := ⟨w.heap.size + 1, 0, none⟩) (.inr (by simp)) _).setCell (p := ⟨w.heap.size + 1, 1, none⟩) (.inr (by simp)) _
      · have h1' : ¬ (0 : Int) < n := by omega
        have h0' : (0 : Int) < (T : Nat) := by omega
        clear hgo h0
        go_wp2_with (go_at_call 62; refine (HPT.out _ _ HA.out.cx).mono ?_; rintro e w5 ⟨rfl, ho⟩; have HA5 := hide (HA.out.quiet ho); have r0 := HA5.out.res.cell 0; have r1 := HA5.out.res.cell 1; have rz := HA5.out.res.frozen; simp at r0 r1; clear ho)
        simp only [Exit.jump]
        refine bodyPost_ret (v := .tuple #[pt (atK s l T 0), .int .i64 0]) ?_ rfl ⟨by rw [HEQ.out], ?_⟩
        · simp [results, Try.results46, go_sem, pt, r0, r1]
        · exact (HA5.out.only.setCell (p := ⟨w.heap.size + 1, 0, none⟩) (.inr (by simp)) _).setCell (p := ⟨w.heap.size + 1, 1, none⟩) (.inr (by simp)) _
  · rintro a' wr ⟨k, c, u3, u8, u9, u10, u11, u12, u13, u14, u15, u16, u17, u18, u19, u20, u21, u22, u23, u24, u25, u26, u27, u28, u29, u30, u31, u32, u33, u34, u35, u36, u37, u38, u39, u40, u41, u42, u43, u44, u45, u46, u47, u48, u49, u50, u51, u52, u53, ⟨t, z, rfl, rfl, rfl⟩, hk, hA⟩
    have HA := hide hA
    clear hA
    have k2 := HA.out.rt.cell 2
    simp at k2
    by_cases hgo : 0 < (T - tot l k) ∧ k < n
    · obtain ⟨hgo1, hgo2⟩ := hgo
      have hkl := hide (show k < l.length by rw [← HN.out]; exact hgo2)
      have hgoI : (0 : Int) < ((T - tot l k) : Nat) := by omega
      have hgo2I : (k : Int) < n := by omega
      have hkn : k + 1 ≤ n := hgo2
      obtain ⟨g, o, rfl, _, hg⟩ := HV.out.addr (by rw [← HN.out]; omega)
      obtain ⟨c1, c2, c3⟩ := lgs_cell (HV.out.only HA.out.only (by simp)) hkl.out

      have hlg := legOk_bd (HLG.out k hkl.out)
      have hpb := okP_bd (HPO.out k (Nat.le_of_lt hkl.out))
      have HSUC := hide (show atK s l T (k + 1) = ((atK s l T k).1 + (l.getD k zg).1 * (min (T - tot l k) (l.getD k zg).2.2.toNat : Nat), (atK s l T k).2 + (l.getD k zg).2.1 * (min (T - tot l k) (l.getD k zg).2.2.toNat : Nat)) from rfl)
      have HTOT := hide (show T - tot l (k + 1) = (T - tot l k) - min (T - tot l k) (l.getD k zg).2.2.toNat by
        show T - (tot l k + (l.getD k zg).2.2.toNat) = _
        skip
        omega)
      have hcx := HA.out.cx
      have hR : (T - tot l k) ≤ 9223372036854775807 := by have := HT.out; omega
      generalize T - tot l k = R at *
      generalize l.getD k zg = x at *
      generalize hpp : atK s l T k = p at *
      have HPP := hide hpp
      clear hpp
      obtain ⟨x1, x2, x3⟩ := x
      obtain ⟨p1, p2⟩ := p
      simp only at c1 c2 c3 hlg hpb hcx
      have HNUM := hide (show ∀ W, _ from fun W => number_any W x1 x2 (by omega) (by omega))
      have HBL := hide (Blk.new wr 104 #[.int .i64 x1, .int .i64 x2, .int .i64 x3])
      have HOL := hide ((Only.refl [] wr).alloc (.cells #[.int .i64 x1, .int .i64 x2, .int .i64 x3] 104))
      have hx0 : 1 ≤ x3 := hlg.2.2.1
      have hx1 : x3 ≤ 10000 := hlg.2.2.2
      clear hgo1 hgo2
      rcases Int.lt_or_le x3 (R : Int) with hcmp | hcmp
      · have HMI := hide (show ((min R x3.toNat : Nat) : Int) = x3 by omega)
        have HSTEP := hide (show ∀ d, Cx d x1 x2 → _ from fun d hd => cx_step (s := x3) hcx hd hlg.1 hlg.2.1 (by omega) (by omega) hpb.1 hpb.2)
        clear hlg hpb hcx
        go_wp2_with (go_at_call 60; refine (HNUM.out _).mono ?_; rintro e w4 ⟨c4, rfl, hc4, ho4⟩; obtain ⟨mm, ee, hmm, hee, hce⟩ := HSTEP.out _ hc4; have HA5 := hide (show AtW w s l T (k + 1) (some ⟨g, o, none⟩) n cap ee w4 from ⟨by rw [HSUC.out, HMI.out]; exact hce, (HA.out.quiet (HOL.out.trans ho4)).rt, (HA.out.quiet (HOL.out.trans ho4)).res, (HA.out.quiet (HOL.out.trans ho4)).only⟩); clear hc4 hce ho4)
        try go_step3
        refine ⟨rfl, ⟨k + 1, ee, _, _, _, _, _, _, _, _, _, _, _, _, _, _, _, _, _, _, _, _, _, _, _, _, _, _, _, _, _, _, _, _, _, _, _, _, _, _, _, _, _, _, _, _, _, _, _, ⟨_, _, rfl, by rw [HTOT.out]; omega, by omega⟩, by omega, HA5.out⟩, ?_⟩
        simp [intOf]
        omega
      · have HMI := hide (show ((min R x3.toNat : Nat) : Int) = (R : Int) by omega)
        have HSTEP := hide (show ∀ d, Cx d x1 x2 → _ from fun d hd => cx_step (s := (R : Int)) hcx hd hlg.1 hlg.2.1 (by omega) (by omega) hpb.1 hpb.2)
        clear hlg hpb hcx
        go_wp2_with (go_at_call 60; refine (HNUM.out _).mono ?_; rintro e w4 ⟨c4, rfl, hc4, ho4⟩; obtain ⟨mm, ee, hmm, hee, hce⟩ := HSTEP.out _ hc4; have HA5 := hide (show AtW w s l T (k + 1) (some ⟨g, o, none⟩) n cap ee w4 from ⟨by rw [HSUC.out, HMI.out]; exact hce, (HA.out.quiet (HOL.out.trans ho4)).rt, (HA.out.quiet (HOL.out.trans ho4)).res, (HA.out.quiet (HOL.out.trans ho4)).only⟩); clear hc4 hce ho4)
        try go_step3
        refine ⟨rfl, ⟨k + 1, ee, _, _, _, _, _, _, _, _, _, _, _, _, _, _, _, _, _, _, _, _, _, _, _, _, _, _, _, _, _, _, _, _, _, _, _, _, _, _, _, _, _, _, _, _, _, _, _, ⟨_, _, rfl, by rw [HTOT.out]; omega, by omega⟩, by omega, HA5.out⟩, ?_⟩
        simp [intOf]
        omega
    · have HEQ := hide (show atV s l T = atK s l T k by
        rcases Nat.eq_zero_or_pos (T - tot l k) with h | h
        · exact atK_rest s l T k (by omega) l.length (by have := HN.out; omega)
        · unfold atV
          rw [show l.length = k by have := HN.out; omega])
      have hpb := okP_bd (HPO.out k (by have := HN.out; omega))
      have HPT := hide (show ∀ W c, Cx c (atK s l T k).1 (atK s l T k).2 → _ from fun W c hc => point_any W c _ _ hc (by omega) (by omega))
      clear hpb
      rcases Nat.eq_zero_or_pos (T - tot l k) with h0 | h0
      · have h0' : ¬ (0 : Int) < ((T - tot l k) : Nat) := by omega
        have h0'' : decide ((0 : Int) < ((T - tot l k) : Nat)) = false := decide_eq_false h0'
        clear hgo h0
        go_wp2_with (go_at_call 62; refine (HPT.out _ _ HA.out.cx).mono ?_; rintro e w5 ⟨rfl, ho⟩; have HA5 := hide (HA.out.quiet ho); have r0 := HA5.out.res.cell 0; have r1 := HA5.out.res.cell 1; have rz := HA5.out.res.frozen; simp at r0 r1; clear ho)
        simp only [Exit.jump]
        refine bodyPost_ret (v := .tuple #[pt (atK s l T k), .int .i64 0]) ?_ rfl ⟨by rw [HEQ.out], ?_⟩
        · simp [results, Try.results46, go_sem, pt, r0, r1]
        · exact (HA5.out.only.setCell (p := ⟨w.heap.size + 1, 0, none⟩) (.inr (by simp)) _).setCell (p := ⟨w.heap.size + 1, 1, none⟩) (.inr (by simp)) _
      · have h1' : ¬ (k : Int) < n := by omega
        have h0' : (0 : Int) < ((T - tot l k) : Nat) := by omega
        clear hgo h0
        go_wp2_with (go_at_call 62; refine (HPT.out _ _ HA.out.cx).mono ?_; rintro e w5 ⟨rfl, ho⟩; have HA5 := hide (HA.out.quiet ho); have r0 := HA5.out.res.cell 0; have r1 := HA5.out.res.cell 1; have rz := HA5.out.res.frozen; simp at r0 r1; clear ho)
        simp only [Exit.jump]
        refine bodyPost_ret (v := .tuple #[pt (atK s l T k), .int .i64 0]) ?_ rfl ⟨by rw [HEQ.out], ?_⟩
        · simp [results, Try.results46, go_sem, pt, r0, r1]
        · exact (HA5.out.only.setCell (p := ⟨w.heap.size + 1, 0, none⟩) (.inr (by simp)) _).setCell (p := ⟨w.heap.size + 1, 1, none⟩) (.inr (by simp)) _
end
end Go.Proofs.Yteoifokmbkpbnaa

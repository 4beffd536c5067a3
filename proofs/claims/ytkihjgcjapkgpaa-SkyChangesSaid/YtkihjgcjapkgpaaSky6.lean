/-
  Contracts of sky's Route.Right and Far, and of the law's legs and points, by walking.
-/
import Derived.Test.YtkihjgcjapkgpaaSky5
namespace Go.Proofs.Ytkihjgcjapkgpaa
open Go.RowKit Go.Deep

theorem fi_zero : FI 0 0 := ⟨false, 0, -1074, rfl, Rep.of_flat (by rw [Int.natAbs_zero, Nat.zero_mul, Nat.zero_mul]) (fun h => absurd rfl h)⟩
theorem cx_step {c d : Value} {p1 p2 x1 x2 s : Int} (hc : Cx c p1 p2) (hd : Cx d x1 x2) (hx1 : -1000 ≤ x1 ∧ x1 ≤ 1000) (hx2 : -1000 ≤ x2 ∧ x2 ≤ 1000) (hs1 : 0 ≤ s) (hs2 : s ≤ 10000) (hp1 : -16777216 ≤ p1 ∧ p1 ≤ 16777216) (hp2 : -16777216 ≤ p2 ∧ p2 ≤ 16777216) :
    ∃ m e, (∀ w, (binOp .mul 86 d (.complex .f64 (floatOfInt .f64 s) 0)).run Try.prog w = .ok m w) ∧ (∀ w, (binOp .add 86 c m).run Try.prog w = .ok e w) ∧ Cx e (p1 + x1 * s) (p2 + x2 * s) := by
  have m1 := mul_bd hx1.1 hx1.2 hs1 hs2
  have m2 := mul_bd hx2.1 hx2.2 hs1 hs2
  have hS : Cx (.complex .f64 (floatOfInt .f64 s) 0) s 0 := ⟨_, _, rfl, fi_ofInt (by omega), fi_zero⟩
  obtain ⟨m, hm, hcm⟩ := cx_mul hd hS (by omega) (by simp) (by simp; omega) (by simp) (by omega) (by simp; omega)
  rw [Int.mul_zero, Int.sub_zero, Int.mul_zero, Int.zero_add] at hcm
  obtain ⟨e, he, hce⟩ := cx_add hc hcm (by omega) (by omega)
  exact ⟨m, e, hm, he, hce⟩

def rtc (s : Int × Int) (v : Value) : Array Value := #[.int .i64 s.1, .int .i64 s.2, v]

set_option maxRecDepth 100000 in
set_option maxHeartbeats 3200000 in
theorem route_right (w : World) (N : List Nat) (v : Value) (s : Int × Int) (l : List Lg) (hv : RdS 3 lgc w N v l) (hl : l.length ≤ 1000) (hfit : ∀ g ∈ l, Fit3 g) (hsf : Fit s) :
    Calls Try.prog 23 #[.agg #[.int .i64 s.1, .int .i64 s.2, v]] w (AndPost (routesV s l) w) := by
  obtain ⟨A, cap, rfl, hc, hm⟩ := hv.form
  unfold maxLen at hm
  have HV := hide hv
  obtain ⟨n, hn⟩ : ∃ n, n = l.length := ⟨_, rfl⟩
  have HN := hide hn
  rw [← hn] at hl hc HV ⊢
  have HFIT := hide hfit
  have HR := hide (show ∀ W p, Fit p → _ from fun W p h => right_any W p h)
  have HSF := hide hsf
  have HB0 := hide (Blk.new w 41 #[.int .i64 s.1, .int .i64 s.2, .slice A n cap])
  have HO0 := hide ((Only.refl [] w).alloc (.cells #[.int .i64 s.1, .int .i64 s.2, .slice A n cap] 41))
  unfold pt at HR
  clear hv hn hfit hsf
  cases hs : okP s with
  | false =>
    have HF := hide (routes_start (l := l) hs)
    have HS := hide hs
    clear hs
    go_enter Try.func23, Try.ntmps23
    go_wp2_with (go_at_call 24; refine (HR.out _ s HSF.out).mono ?_; rintro e w1 ⟨rfl, ho⟩; have HO1 := hide (HO0.out.trans ho); rw [HS.out]; clear ho)
    go_ret
    exact andpost HF.out HO1.out
  | true =>
  have HSB := hide (okP_bd hs)
  have HS := hide hs
  clear hs
  by_cases h64 : n ≤ 64
  case neg =>
    have HF := hide (routes_long (s := s) (l := l) (by rw [← HN.out]; omega))
    have h64' : (64 : Int) < n := by omega
    clear h64
    go_enter Try.func23, Try.ntmps23
    go_wp2_with (go_at_call 24; refine (HR.out _ s HSF.out).mono ?_; rintro e w1 ⟨rfl, ho⟩; have HB1 := hide (HB0.out.only ho (by simp)); have HO1 := hide (HO0.out.trans ho); have k0 := HB1.out.cell 0; have k1 := HB1.out.cell 1; have k2 := HB1.out.cell 2; simp at k0 k1 k2; rw [HS.out]; clear ho)
    go_ret
    exact andpost HF.out HO1.out
  have h64' : ¬ (64 : Int) < n := by omega
  go_enter Try.func23, Try.ntmps23
  go_wp2_with (first
    | (go_at_call 24; refine (HR.out _ s HSF.out).mono ?_; rintro e w1 ⟨rfl, ho⟩; have HB1 := hide (HB0.out.only ho (by simp)); have HO1 := hide (HO0.out.trans ho); have k0 := HB1.out.cell 0; have k1 := HB1.out.cell 1; have k2 := HB1.out.cell 2; simp at k0 k1 k2; rw [HS.out]; clear ho)
    | (go_at_call 40; refine (number_any _ s.1 s.2 (by have := HSB.out; omega) (by have := HSB.out; omega)).mono ?_; rintro e w2 ⟨c0, rfl, hc0, ho⟩; have HO2 := hide (HO1.out.trans ho); have HB2 := hide (HB1.out.only ho (by simp)); have HC0 := hide hc0; have j2 := HB2.out.cell 2; simp at j2; clear ho hc0))
  clear k0 k1 k2 j2
  go_loopw [22, 3] (fun i c wr => ∃ k : Nat, k ≤ n ∧ i = .int .i64 k ∧ Hid (∀ j, j < k → lok s l j = true) ∧ Hid (Cx c (pos s l k).1 (pos s l k).2) ∧ Hid (okP (pos s l k) = true) ∧ Hid (Only [] w wr)) (fun i _ _ => n - (intOf i).toNat)
  case atStart => exact ⟨0, Nat.zero_le _, rfl, hide (fun j hj => by omega), HC0, HS, HO2⟩
  case round =>
    obtain ⟨k, hk, rfl, hok, hcx, hpos, ho⟩ := hrel
    by_cases hlt : k < n
    · have hlt' : (k : Int) < n := by omega
      obtain ⟨g, o, rfl, _, hg⟩ := HV.out.addr (by rw [← HN.out]; omega)
      obtain ⟨c1, c2, c3⟩ := lgs_cell (HV.out.only ho.out (by simp)) (show k < l.length by rw [← HN.out]; exact hlt)
      have hlk : lok s l k = (legOk (l.getD k zg) && okP (pos s l (k + 1))) := rfl
      have hpk : pos s l (k + 1) = ((pos s l k).1 + (l.getD k zg).1 * (l.getD k zg).2.2, (pos s l k).2 + (l.getD k zg).2.1 * (l.getD k zg).2.2) := rfl
      have HLK := hide hlk
      have HPK := hide hpk
      have hkl := hide (show k < l.length by rw [← HN.out]; exact hlt)
      have hmem : l.getD k zg ∈ l := by
        rw [List.getD_eq_getElem?_getD, List.getElem?_eq_getElem hkl.out]; exact List.getElem_mem _
      have HFX := hide (HFIT.out _ hmem)
      clear hlk hpk hmem
      generalize l.getD k zg = x at *
      generalize pos s l k = p at *
      obtain ⟨x1, x2, x3⟩ := x
      obtain ⟨p1, p2⟩ := p
      simp only at c1 c2 c3
      have HWI := hide (show ∀ W, _ from fun W => within_any W (x1, x2) 1000 (by omega) (by omega) HFX.out.1 HFX.out.2.1)
      unfold pt at HWI
      have HBL := hide (Blk.new wr 83 #[.int .i64 x1, .int .i64 x2, .int .i64 x3])
      have HOL := hide (ho.out.alloc (.cells #[.int .i64 x1, .int .i64 x2, .int .i64 x3] 83))
      cases hlg : legOk (x1, x2, x3) with
      | false =>
        have HF := hide (routes_false (s := s) (l := l) hkl.out (by rw [HLK.out, hlg]; rfl))
        unfold legOk at hlg
        simp only at hlg
        cases hin : inB 1000 (x1, x2) with
        | false =>
          have HIN := hide hin
          clear hlg hin
          go_wp2_with (go_at_call 44; refine (HWI.out _).mono ?_; rw [HIN.out]; rintro e w3 ⟨rfl, ho3⟩; have HO3 := hide (HOL.out.trans ho3); clear ho3)
          go_ret
          exact andpost HF.out HO3.out
        | true =>
          have hin' := of_decide_eq_true hin
          simp only at hin'
          have g3 : ¬ (1 ≤ x3 ∧ x3 ≤ 10000) := by
            rw [decide_eq_true (show -1000 ≤ x1 ∧ x1 ≤ 1000 by omega), decide_eq_true (show -1000 ≤ x2 ∧ x2 ≤ 1000 by omega)] at hlg
            simp at hlg
            omega
          have HIN := hide hin
          clear hlg hin hin'
          by_cases g4 : x3 < 1
          · clear g3
            go_wp2_with (go_at_call 44; refine (HWI.out _).mono ?_; rw [HIN.out]; rintro e w3 ⟨rfl, ho3⟩; have HO3 := hide (HOL.out.trans ho3); have hB3 := HBL.out.only ho3 (by simp); have z0 := hB3.cell 0; have z1 := hB3.cell 1; have z2 := hB3.cell 2; simp at z0 z1 z2; clear ho3 hB3)
            go_ret
            exact andpost HF.out HO3.out
          · have g5 : 10000 < x3 := by omega
            have g4' : decide (x3 < 1) = false := decide_eq_false g4
            clear g3
            go_wp2_with (go_at_call 44; refine (HWI.out _).mono ?_; rw [HIN.out]; rintro e w3 ⟨rfl, ho3⟩; have HO3 := hide (HOL.out.trans ho3); have hB3 := HBL.out.only ho3 (by simp); have z0 := hB3.cell 0; have z1 := hB3.cell 1; have z2 := hB3.cell 2; simp at z0 z1 z2; clear ho3 hB3)
            go_ret
            exact andpost HF.out HO3.out
      | true =>
        obtain ⟨g1, g2, g3, g4⟩ := legOk_bd hlg
        simp only at g1 g2 g3 g4
        have HIN := hide (show inB 1000 (x1, x2) = true from decide_eq_true (by simp only; omega))
        have HLG := hide hlg
        have hpb := okP_bd hpos.out
        simp only at hpb
        have HSTEP := hide (show ∀ d, Cx d x1 x2 → _ from fun d hd => cx_step hcx.out hd g1 g2 (by omega) g4 hpb.1 hpb.2)
        have HNUM := hide (show ∀ W, _ from fun W => number_any W x1 x2 (by omega) (by omega))
        have m1 := mul_bd g1.1 g1.2 (by omega) g4
        have m2 := mul_bd g2.1 g2.2 (by omega) g4
        have HPT := hide (show ∀ W c, Cx c (p1 + x1 * x3) (p2 + x2 * x3) → _ from fun W c hc => point_any W c _ _ hc (by omega) (by omega))
        have HF2 := hide (show Fit (p1 + x1 * x3, p2 + x2 * x3) from ⟨by simp only; omega, by simp only; omega⟩)
        clear hlg g1 g2 hpb m1 m2
        go_upto_region 9 with (go_at_call 44; refine (HWI.out _).mono ?_; rw [HIN.out]; rintro e w3 ⟨rfl, ho3⟩; have HO3 := hide (HOL.out.trans ho3); have HB3 := hide (HBL.out.only ho3 (by simp)); have z0 := HB3.out.cell 0; have z1 := HB3.out.cell 1; have z2 := HB3.out.cell 2; simp at z0 z1 z2; clear ho3)
        have hwl : wr.heap.size < w3.heap.size := HB3.out.lt
        go_region_held3 (fun w' => w'.cell? ⟨wr.heap.size, 0, none⟩ = some (.int .i64 x1) ∧ w'.cell? ⟨wr.heap.size, 1, none⟩ = some (.int .i64 x2) ∧ w'.cell? ⟨wr.heap.size, 2, none⟩ = some (.int .i64 x3))
          (first | exact ⟨z0, z1, z2⟩ | exact ⟨y0, y1, y2⟩)
          (first
          | (go_at_call 40; refine (HNUM.out _).mono ?_; rintro e w4 ⟨c4, rfl, hc4, ho4⟩; have HO4 := hide (HO3.out.trans (((Only.refl [] w3).drew).trans ho4)); have y0 := (cell_only (((Only.refl [] w3).drew).trans ho4) hwl (by simp)).trans z0; have y1 := (cell_only (((Only.refl [] w3).drew).trans ho4) hwl (by simp)).trans z1; have y2 := (cell_only (((Only.refl [] w3).drew).trans ho4) hwl (by simp)).trans z2; obtain ⟨mm, ee, hmm, hee, hce⟩ := HSTEP.out _ hc4; have HCE := hide hce; clear hce hc4 ho4))
        all_goals
          cases hq : okP (p1 + x1 * x3, p2 + x2 * x3) with
          | false =>
            have HF := hide (routes_false (s := s) (l := l) hkl.out (by rw [HLK.out, HPK.out, HLG.out]; exact hq))
            have HQ := hide hq
            clear hq
            go_wp2_with (first
              | (go_at_call 43; refine (HPT.out _ _ HCE.out).mono ?_; rintro e w5 ⟨rfl, ho5⟩; have HO5 := hide (HO4.out.trans ho5); clear ho5)
              | (go_at_call 24; refine (HR.out _ (p1 + x1 * x3, p2 + x2 * x3) HF2.out).mono ?_; rintro e w6 ⟨rfl, ho6⟩; have HO6 := hide (HO5.out.trans ho6); rw [HQ.out]; clear ho6))
            go_ret
            exact andpost HF.out HO6.out
          | true =>
            have HQ := hide hq
            clear hq
            go_wp2_with (first
              | (go_at_call 43; refine (HPT.out _ _ HCE.out).mono ?_; rintro e w5 ⟨rfl, ho5⟩; have HO5 := hide (HO4.out.trans ho5); clear ho5)
              | (go_at_call 24; refine (HR.out _ (p1 + x1 * x3, p2 + x2 * x3) HF2.out).mono ?_; rintro e w6 ⟨rfl, ho6⟩; have HO6 := hide (HO5.out.trans ho6); rw [HQ.out]; clear ho6))
            go_roundw
            case rel => exact ⟨k + 1, by omega, by go_num, hide (fun j hj => by
              rcases Nat.lt_or_ge j k with h | h
              · exact hok.out j h
              · rw [show j = k by omega, HLK.out, HPK.out, HLG.out]; exact HQ.out), hide (by rw [HPK.out]; exact HCE.out), hide (by rw [HPK.out]; exact HQ.out), HO6⟩
            case measure => simp [intOf]; omega
    · have hlt' : ¬ (k : Int) < n := by omega
      obtain rfl : k = n := by omega
      have HT := hide (routes_true HS.out (by rw [← HN.out]; exact h64) (fun j hj => hok.out j (by rw [HN.out]; exact hj)))
      go_wp2_with fail
      go_ret
      exact andpost HT.out ho.out
end Go.Proofs.Ytkihjgcjapkgpaa

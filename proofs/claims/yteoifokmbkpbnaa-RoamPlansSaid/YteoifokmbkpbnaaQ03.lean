/-
  Walks and plain words (texts Sky6, Sky7, Sky8). No condition beyond those that each theorem states.
-/
import Derived.Test.YteoifokmbkpbnaaQ02
namespace Go.Proofs.Yteoifokmbkpbnaa
section
open Go.RowKit Go.Deep

theorem fi_zero : FI 0 0 := ⟨false, 0, -1074, rfl, Rep.of_flat (by rw [Int.natAbs_zero, Nat.zero_mul, Nat.zero_mul]) (fun h => absurd rfl h)⟩
theorem cx_step {c d : Value} {p1 p2 x1 x2 s : Int} (hc : Cx c p1 p2) (hd : Cx d x1 x2) (hx1 : -1000 ≤ x1 ∧ x1 ≤ 1000) (hx2 : -1000 ≤ x2 ∧ x2 ≤ 1000) (hs1 : 0 ≤ s) (hs2 : s ≤ 10000) (hp1 : -16777216 ≤ p1 ∧ p1 ≤ 16777216) (hp2 : -16777216 ≤ p2 ∧ p2 ≤ 16777216) :
    ∃ m e, (∀ w, (binOp .mul 129 d (.complex .f64 (floatOfInt .f64 s) 0)).run Try.prog w = .ok m w) ∧ (∀ w, (binOp .add 129 c m).run Try.prog w = .ok e w) ∧ Cx e (p1 + x1 * s) (p2 + x2 * s) := by
  have m1 := mul_bd hx1.1 hx1.2 hs1 hs2
  have m2 := mul_bd hx2.1 hx2.2 hs1 hs2
  have hS : Cx (.complex .f64 (floatOfInt .f64 s) 0) s 0 := ⟨_, _, rfl, fi_ofInt (by omega), fi_zero⟩
  obtain ⟨m, hm, hcm⟩ := cx_mul hd hS (by omega) (by simp) (by simp; omega) (by simp) (by omega) (by simp; omega)
  rw [Int.mul_zero, Int.sub_zero, Int.mul_zero, Int.zero_add] at hcm
  obtain ⟨e, he, hce⟩ := cx_add hc hcm (by omega) (by omega)
  exact ⟨m, e, hm, he, hce⟩

set_option maxRecDepth 100000 in
set_option maxHeartbeats 3200000 in
theorem route_right (w : World) (N : List Nat) (v : Value) (s : Int × Int) (l : List Lg) (hv : RdS 3 lgc w N v l) (hl : l.length ≤ 1000) (hfit : ∀ g ∈ l, Fit3 g) (hsf : Fit s) :
    Calls Try.prog 48 #[.agg #[.int .i64 s.1, .int .i64 s.2, v]] w (AndPost (routesV s l) w) := by
  obtain ⟨A, cap, rfl, hc, hm⟩ := hv.form
  unfold maxLen at hm
  have HV := hide hv
  obtain ⟨n, hn⟩ : ∃ n, n = l.length := ⟨_, rfl⟩
  have HN := hide hn
  rw [← hn] at hl hc HV ⊢
  have HFIT := hide hfit
  have HR := hide (show ∀ W p, Fit p → _ from fun W p h => right_any W p h)
  have HSF := hide hsf
  have HB0 := hide (Blk.new w 98 #[.int .i64 s.1, .int .i64 s.2, .slice A n cap])
  have HO0 := hide ((Only.refl [] w).alloc (.cells #[.int .i64 s.1, .int .i64 s.2, .slice A n cap] 98))
  unfold pt at HR
  clear hv hn hfit hsf
  cases hs : okP s with
  | false =>
    have HF := hide (routes_start (l := l) hs)
    have HS := hide hs
    clear hs
    go_enter Try.func48, Try.ntmps48
    go_wp2_with (go_at_call 63; refine (HR.out _ s HSF.out).mono ?_; rintro e w1 ⟨rfl, ho⟩; have HO1 := hide (HO0.out.trans ho); rw [HS.out]; clear ho)
    go_ret
    exact andpost HF.out HO1.out
  | true =>
  have HSB := hide (okP_bd hs)
  have HS := hide hs
  clear hs
  by_cases h64 : n ≤ 64
  case neg =>
    have HF := hide (routes_long (s := s) (l := l) (by rw [← HN.out]; omega))
    have h64' : (64 : Int) < n := by omega
    clear h64
    go_enter Try.func48, Try.ntmps48
    go_wp2_with (go_at_call 63; refine (HR.out _ s HSF.out).mono ?_; rintro e w1 ⟨rfl, ho⟩; have HB1 := hide (HB0.out.only ho (by simp)); have HO1 := hide (HO0.out.trans ho); have k0 := HB1.out.cell 0; have k1 := HB1.out.cell 1; have k2 := HB1.out.cell 2; simp at k0 k1 k2; rw [HS.out]; clear ho)
    go_ret
    exact andpost HF.out HO1.out
  have h64' : ¬ (64 : Int) < n := by omega
  go_enter Try.func48, Try.ntmps48
  go_wp2_with (first
    | (go_at_call 63; refine (HR.out _ s HSF.out).mono ?_; rintro e w1 ⟨rfl, ho⟩; have HB1 := hide (HB0.out.only ho (by simp)); have HO1 := hide (HO0.out.trans ho); have k0 := HB1.out.cell 0; have k1 := HB1.out.cell 1; have k2 := HB1.out.cell 2; simp at k0 k1 k2; rw [HS.out]; clear ho)
    | (go_at_call 60; refine (number_any _ s.1 s.2 (by have := HSB.out; omega) (by have := HSB.out; omega)).mono ?_; rintro e w2 ⟨c0, rfl, hc0, ho⟩; have HO2 := hide (HO1.out.trans ho); have HB2 := hide (HB1.out.only ho (by simp)); have HC0 := hide hc0; have j2 := HB2.out.cell 2; simp at j2; clear ho hc0))
  clear k0 k1 k2 j2
  go_loopw [22, 3] (fun i c wr => ∃ k : Nat, k ≤ n ∧ i = .int .i64 k ∧ Hid (∀ j, j < k → lok s l j = true) ∧ Hid (Cx c (pos s l k).1 (pos s l k).2) ∧ Hid (okP (pos s l k) = true) ∧ Hid (Only [] w wr)) (fun i _ _ => n - (intOf i).toNat)
  case atStart => exact ⟨0, Nat.zero_le _, rfl, hide (fun j hj => by omega), HC0, HS, HO2⟩
  case round =>
    obtain ⟨k, hk, rfl, hok, hcx, hpos, ho⟩ := hrel
    by_cases hlt : k < n
    · have hlt' : (k : Int) < n := by omega
      obtain ⟨g, o, rfl, _, hg⟩ := HV.out.addr (by rw [← HN.out]; omega)
      obtain ⟨c1, c2, c3⟩ := lgs_cell (HV.out.only ho.out (by simp)) (show k < l.length by rw [← HN.out]; exact hlt)
      have hlk : lok s l k = (legOk (l.getD k zg) && okP (pos s l (k + 1))) := rfl
      have hpk : pos s l (k + 1) = ((pos s l k).1 + (l.getD k zg).1 * (l.getD k zg).2.2, (pos s l k).2 + (l.getD k zg).2.1 * (l.getD k zg).2.2) := rfl
      have HLK := hide hlk
      have HPK := hide hpk
      have hkl := hide (show k < l.length by rw [← HN.out]; exact hlt)
      have hmem : l.getD k zg ∈ l := by
        rw [List.getD_eq_getElem?_getD, List.getElem?_eq_getElem hkl.out]; exact List.getElem_mem _
      have HFX := hide (HFIT.out _ hmem)
      clear hlk hpk hmem
      generalize l.getD k zg = x at *
      generalize pos s l k = p at *
      obtain ⟨x1, x2, x3⟩ := x
      obtain ⟨p1, p2⟩ := p
      simp only at c1 c2 c3
      have HWI := hide (show ∀ W, _ from fun W => within_any W (x1, x2) 1000 (by omega) (by omega) HFX.out.1 HFX.out.2.1)
      unfold pt at HWI
      have HBL := hide (Blk.new wr 104 #[.int .i64 x1, .int .i64 x2, .int .i64 x3])
      have HOL := hide (ho.out.alloc (.cells #[.int .i64 x1, .int .i64 x2, .int .i64 x3] 104))
      cases hlg : legOk (x1, x2, x3) with
      | false =>
        have HF := hide (routes_false (s := s) (l := l) hkl.out (by rw [HLK.out, hlg]; rfl))
        unfold legOk at hlg
        simp only at hlg
        cases hin : inB 1000 (x1, x2) with
        | false =>
          have HIN := hide hin
          clear hlg hin
          go_wp2_with (go_at_call 64; refine (HWI.out _).mono ?_; rw [HIN.out]; rintro e w3 ⟨rfl, ho3⟩; have HO3 := hide (HOL.out.trans ho3); clear ho3)
          go_ret
          exact andpost HF.out HO3.out
        | true =>
          have hin' := of_decide_eq_true hin
          simp only at hin'
          have g3 : ¬ (1 ≤ x3 ∧ x3 ≤ 10000) := by
            rw [decide_eq_true (show -1000 ≤ x1 ∧ x1 ≤ 1000 by omega), decide_eq_true (show -1000 ≤ x2 ∧ x2 ≤ 1000 by omega)] at hlg
            simp at hlg
            omega
          have HIN := hide hin
          clear hlg hin hin'
          by_cases g4 : x3 < 1
          · clear g3
            go_wp2_with (go_at_call 64; refine (HWI.out _).mono ?_; rw [HIN.out]; rintro e w3 ⟨rfl, ho3⟩; have HO3 := hide (HOL.out.trans ho3); have hB3 := HBL.out.only ho3 (by simp); have z0 := hB3.cell 0; have z1 := hB3.cell 1; have z2 := hB3.cell 2; simp at z0 z1 z2; clear ho3 hB3)
            go_ret
            exact andpost HF.out HO3.out
          · have g5 : 10000 < x3 := by omega
            have g4' : decide (x3 < 1) = false := decide_eq_false g4
            clear g3
            go_wp2_with (go_at_call 64; refine (HWI.out _).mono ?_; rw [HIN.out]; rintro e w3 ⟨rfl, ho3⟩; have HO3 := hide (HOL.out.trans ho3); have hB3 := HBL.out.only ho3 (by simp); have z0 := hB3.cell 0; have z1 := hB3.cell 1; have z2 := hB3.cell 2; simp at z0 z1 z2; clear ho3 hB3)
            go_ret
            exact andpost HF.out HO3.out
      | true =>
        obtain ⟨g1, g2, g3, g4⟩ := legOk_bd hlg
        simp only at g1 g2 g3 g4
        have HIN := hide (show inB 1000 (x1, x2) = true from decide_eq_true (by simp only; omega))
        have HLG := hide hlg
        have hpb := okP_bd hpos.out
        simp only at hpb
        have HSTEP := hide (show ∀ d, Cx d x1 x2 → _ from fun d hd => cx_step hcx.out hd g1 g2 (by omega) g4 hpb.1 hpb.2)
        have HNUM := hide (show ∀ W, _ from fun W => number_any W x1 x2 (by omega) (by omega))
        have m1 := mul_bd g1.1 g1.2 (by omega) g4
        have m2 := mul_bd g2.1 g2.2 (by omega) g4
        have HPT := hide (show ∀ W c, Cx c (p1 + x1 * x3) (p2 + x2 * x3) → _ from fun W c hc => point_any W c _ _ hc (by omega) (by omega))
        have HF2 := hide (show Fit (p1 + x1 * x3, p2 + x2 * x3) from ⟨by simp only; omega, by simp only; omega⟩)
        clear hlg g1 g2 hpb m1 m2
        go_upto_region 9 with (go_at_call 64; refine (HWI.out _).mono ?_; rw [HIN.out]; rintro e w3 ⟨rfl, ho3⟩; have HO3 := hide (HOL.out.trans ho3); have HB3 := hide (HBL.out.only ho3 (by simp)); have z0 := HB3.out.cell 0; have z1 := HB3.out.cell 1; have z2 := HB3.out.cell 2; simp at z0 z1 z2; clear ho3)
        have hwl : wr.heap.size < w3.heap.size := HB3.out.lt
        go_region_held3 (fun w' => w'.cell? ⟨wr.heap.size, 0, none⟩ = some (.int .i64 x1) ∧ w'.cell? ⟨wr.heap.size, 1, none⟩ = some (.int .i64 x2) ∧ w'.cell? ⟨wr.heap.size, 2, none⟩ = some (.int .i64 x3))
          (first | exact ⟨z0, z1, z2⟩ | exact ⟨y0, y1, y2⟩)
          (first
          | (go_at_call 60; refine (HNUM.out _).mono ?_; rintro e w4 ⟨c4, rfl, hc4, ho4⟩; have HO4 := hide (HO3.out.trans (((Only.refl [] w3).drew).trans ho4)); have y0 := (cell_only (((Only.refl [] w3).drew).trans ho4) hwl (by simp)).trans z0; have y1 := (cell_only (((Only.refl [] w3).drew).trans ho4) hwl (by simp)).trans z1; have y2 := (cell_only (((Only.refl [] w3).drew).trans ho4) hwl (by simp)).trans z2; obtain ⟨mm, ee, hmm, hee, hce⟩ := HSTEP.out _ hc4; have HCE := hide hce; clear hce hc4 ho4))
        all_goals
          cases hq : okP (p1 + x1 * x3, p2 + x2 * x3) with
          | false =>
            have HF := hide (routes_false (s := s) (l := l) hkl.out (by rw [HLK.out, HPK.out, HLG.out]; exact hq))
            have HQ := hide hq
            clear hq
            go_wp2_with (first
              | (go_at_call 62; refine (HPT.out _ _ HCE.out).mono ?_; rintro e w5 ⟨rfl, ho5⟩; have HO5 := hide (HO4.out.trans ho5); clear ho5)
              | (go_at_call 63; refine (HR.out _ (p1 + x1 * x3, p2 + x2 * x3) HF2.out).mono ?_; rintro e w6 ⟨rfl, ho6⟩; have HO6 := hide (HO5.out.trans ho6); rw [HQ.out]; clear ho6))
            go_ret
            exact andpost HF.out HO6.out
          | true =>
            have HQ := hide hq
            clear hq
            go_wp2_with (first
              | (go_at_call 62; refine (HPT.out _ _ HCE.out).mono ?_; rintro e w5 ⟨rfl, ho5⟩; have HO5 := hide (HO4.out.trans ho5); clear ho5)
              | (go_at_call 63; refine (HR.out _ (p1 + x1 * x3, p2 + x2 * x3) HF2.out).mono ?_; rintro e w6 ⟨rfl, ho6⟩; have HO6 := hide (HO5.out.trans ho6); rw [HQ.out]; clear ho6))
            go_roundw
            case rel => exact ⟨k + 1, by omega, by go_num, hide (fun j hj => by
              rcases Nat.lt_or_ge j k with h | h
              · exact hok.out j h
              · rw [show j = k by omega, HLK.out, HPK.out, HLG.out]; exact HQ.out), hide (by rw [HPK.out]; exact HCE.out), hide (by rw [HPK.out]; exact HQ.out), HO6⟩
            case measure => simp [intOf]; omega
    · have hlt' : ¬ (k : Int) < n := by omega
      obtain rfl : k = n := by omega
      have HT := hide (routes_true HS.out (by rw [← HN.out]; exact h64) (fun j hj => hok.out j (by rw [HN.out]; exact hj)))
      go_wp2_with fail
      go_ret
      exact andpost HT.out ho.out
end
section
open Go.RowKit Go.Deep

theorem Try.infoPt : (Try.prog.info? 99).map (fun i => (i.zero, i.size, i.bytes)) = some (some (.agg #[.int .i64 0, .int .i64 0]), 2, 16) := by kernel_rfl
theorem Try.infoLg : (Try.prog.info? 106).map (fun i => (i.zero, i.size, i.bytes)) = some (some (.agg #[.int .i64 0, .int .i64 0, .int .i64 0]), 3, 24) := by kernel_rfl

theorem ptc_len (p : Int × Int) : (ptc p).length = 2 := rfl
theorem lgc_len (g : Lg) : (lgc g).length = 3 := rfl
theorem take_succ_getD {α : Type} (l : List α) (d : α) {k : Nat} (h : k < l.length) : l.take (k + 1) = l.take k ++ [l.getD k d] := by
  rw [List.take_succ_eq_append_getElem h, List.getD_eq_getElem?_getD, List.getElem?_eq_getElem h]; rfl

/-- What is handed back reads as l. -/
def ListPost {α : Type} (k : Nat) (F : α → List Value) (l : List α) (w : World) (e : Ending) (w' : World) : Prop := ∃ v, e = .returned v ∧ RdS k F w' [] v l ∧ Only [] w w'

theorem reads_new (w : World) (e : TypeId) (xs : List Value) (B k : Nat) (hx : xs.length = k) (hB : w.heap.size < B) : Reads (w.alloc (.cells xs.toArray e)) B k (some ⟨w.heap.size, 0, none⟩) 1 xs :=
  ⟨by rw [hx, Nat.one_mul], fun _ => ⟨_, rfl, hB, fun j u hu => by rw [add_mk, Nat.zero_add, (Blk.new w e xs.toArray).cell]; simpa using hu⟩⟩
end
section

/-- The seconds of the first k legs. -/
def tot (l : List Lg) : Nat → Nat
  | 0 => 0
  | k + 1 => tot l k + (l.getD k zg).2.2.toNat
def atK (s : Int × Int) (l : List Lg) (T : Nat) : Nat → Int × Int
  | 0 => s
  | k + 1 => ((atK s l T k).1 + (l.getD k zg).1 * (min (T - tot l k) (l.getD k zg).2.2.toNat : Nat), (atK s l T k).2 + (l.getD k zg).2.1 * (min (T - tot l k) (l.getD k zg).2.2.toNat : Nat))
/-- Where one is at a second. -/
def atV (s : Int × Int) (l : List Lg) (T : Nat) : Int × Int := atK s l T l.length

theorem tot_mono (l : List Lg) : ∀ {i k : Nat}, i ≤ k → tot l i ≤ tot l k
  | i, 0, h => by rw [show i = 0 by omega]; exact Nat.le_refl _
  | i, k + 1, h => by
    rcases Nat.lt_or_ge i (k + 1) with h1 | h1
    · have := tot_mono l (show i ≤ k by omega)
      show tot l i ≤ tot l k + _
      omega
    · rw [show i = k + 1 by omega]; exact Nat.le_refl _

theorem atK_pos (s : Int × Int) (l : List Lg) (T : Nat) (hpos : ∀ i, i < l.length → 0 ≤ (l.getD i zg).2.2) : ∀ k, k ≤ l.length → tot l k ≤ T → atK s l T k = pos s l k
  | 0, _, _ => rfl
  | k + 1, hk, h => by
    have h' : tot l k + (l.getD k zg).2.2.toNat ≤ T := h
    have ih := atK_pos s l T hpos k (by omega) (by omega)
    unfold atK pos
    rw [ih, Nat.min_eq_right (by omega), Int.toNat_of_nonneg (hpos k (by omega))]
theorem atK_rest (s : Int × Int) (l : List Lg) (T k : Nat) (hT : T ≤ tot l k) : ∀ m, k ≤ m → atK s l T m = atK s l T k
  | 0, h => by rw [show k = 0 by omega]
  | m + 1, h => by
    rcases Nat.lt_or_ge k (m + 1) with h1 | h1
    · have ih := atK_rest s l T k hT m (by omega)
      have := tot_mono l (show k ≤ m by omega)
      show ((atK s l T m).1 + (l.getD m zg).1 * (min (T - tot l m) (l.getD m zg).2.2.toNat : Nat), (atK s l T m).2 + (l.getD m zg).2.1 * (min (T - tot l m) (l.getD m zg).2.2.toNat : Nat)) = _
      rw [ih, show T - tot l m = 0 by omega, Nat.zero_min]
      simp
    · rw [show k = m + 1 by omega]
/-- Inside a leg. -/
theorem atV_in (s : Int × Int) (l : List Lg) (hpos : ∀ i, i < l.length → 0 ≤ (l.getD i zg).2.2) {k j : Nat} (hk : k < l.length) (hj : (j : Int) ≤ (l.getD k zg).2.2) :
    atV s l (tot l k + j) = ((pos s l k).1 + (l.getD k zg).1 * j, (pos s l k).2 + (l.getD k zg).2.1 * j) := by
  unfold atV
  rw [atK_rest s l _ (k + 1) (by show tot l k + j ≤ tot l k + _; omega) l.length (by omega)]
  unfold atK
  rw [atK_pos s l _ hpos k (by omega) (by omega), show tot l k + j - tot l k = j by omega, Nat.min_eq_left (by omega)]
theorem atV_tot (s : Int × Int) (l : List Lg) (hpos : ∀ i, i < l.length → 0 ≤ (l.getD i zg).2.2) {k : Nat} (hk : k ≤ l.length) : atV s l (tot l k) = pos s l k := by
  unfold atV
  rw [atK_rest s l _ k (Nat.le_refl _) l.length hk, atK_pos s l _ hpos k hk (Nat.le_refl _)]
theorem atV_zero (s : Int × Int) (l : List Lg) (hpos : ∀ i, i < l.length → 0 ≤ (l.getD i zg).2.2) : atV s l 0 = s := atV_tot s l hpos (k := 0) (by omega)
theorem atV_end (s : Int × Int) (l : List Lg) (hpos : ∀ i, i < l.length → 0 ≤ (l.getD i zg).2.2) {T : Nat} (hT : tot l l.length ≤ T) : atV s l T = pos s l l.length := atK_pos s l T hpos _ (Nat.le_refl _) hT

/-- The changes up to second T. -/
def chs (m : List (Int × Int)) (s : Int × Int) (l : List Lg) : Nat → List (Int × Int)
  | 0 => [((0 : Int), ((nearV m (atV s l 0) : Nat) : Int))]
  | T + 1 => if nearV m (atV s l (T + 1)) = nearV m (atV s l T) then chs m s l T else chs m s l T ++ [(((T + 1 : Nat) : Int), ((nearV m (atV s l (T + 1)) : Nat) : Int))]
theorem chs_len (m : List (Int × Int)) (s : Int × Int) (l : List Lg) : ∀ T, (chs m s l T).length ≤ T + 1
  | 0 => by simp [chs]
  | T + 1 => by
    have := chs_len m s l T
    unfold chs
    split
    · omega
    · rw [List.length_append, List.length_singleton]; omega
theorem chs_same {m : List (Int × Int)} {s : Int × Int} {l : List Lg} {T : Nat} (h : nearV m (atV s l (T + 1)) = nearV m (atV s l T)) : chs m s l (T + 1) = chs m s l T := if_pos h
theorem chs_new {m : List (Int × Int)} {s : Int × Int} {l : List Lg} {T : Nat} (h : nearV m (atV s l (T + 1)) ≠ nearV m (atV s l T)) : chs m s l (T + 1) = chs m s l T ++ [(((T + 1 : Nat) : Int), ((nearV m (atV s l (T + 1)) : Nat) : Int))] := if_neg h

theorem between {p x j s B : Int} (h0 : 0 ≤ j) (h1 : j ≤ s) (a1 : -B ≤ p) (a2 : p ≤ B) (b1 : -B ≤ p + x * s) (b2 : p + x * s ≤ B) : -B ≤ p + x * j ∧ p + x * j ≤ B := by
  rcases Int.lt_or_le x 0 with h | h
  · have c1 : x * s ≤ x * j := Int.mul_le_mul_of_nonpos_left (by omega) h1
    have c2 : x * j ≤ 0 := Int.mul_nonpos_of_nonpos_of_nonneg (by omega) h0
    omega
  · have c1 : x * j ≤ x * s := Int.mul_le_mul_of_nonneg_left h1 h
    have c2 : 0 ≤ x * j := Int.mul_nonneg h h0
    omega
theorem okP_between {p : Int × Int} {x y j s : Int} (h0 : 0 ≤ j) (h1 : j ≤ s) (hp : okP p = true) (hq : okP (p.1 + x * s, p.2 + y * s) = true) : okP (p.1 + x * j, p.2 + y * j) = true := by
  have a := okP_bd hp
  have b := okP_bd hq
  simp only at b
  have c1 := between (B := 16777216) (x := x) h0 h1 a.1.1 a.1.2 b.1.1 b.1.2
  have c2 := between (B := 16777216) (x := y) h0 h1 a.2.1 a.2.2 b.2.1 b.2.2
  exact decide_eq_true ⟨c1.1, c1.2, c2.1, c2.2⟩
/-- What is right of a right route. -/
theorem routes_pos {s : Int × Int} {l : List Lg} (h : routesV s l = true) : (∀ k, k < l.length → legOk (l.getD k zg) = true) ∧ (∀ k, k ≤ l.length → okP (pos s l k) = true) ∧ (∀ i, i < l.length → 0 ≤ (l.getD i zg).2.2) := by
  obtain ⟨h1, h2, h3⟩ := routes_lok h
  have h4 : ∀ k, k < l.length → legOk (l.getD k zg) = true ∧ okP (pos s l (k + 1)) = true := fun k hk => by
    have := h3 k hk
    unfold lok at this
    rwa [Bool.and_eq_true] at this
  refine ⟨fun k hk => (h4 k hk).1, fun k hk => ?_, fun i hi => by have := legOk_bd (h4 i hi).1; omega⟩
  cases k with
  | zero => exact h1
  | succ k => exact (h4 k (by omega)).2
theorem routes_at {s : Int × Int} {l : List Lg} (h : routesV s l = true) : ∀ T, okP (atV s l T) = true := by
  obtain ⟨h1, h2, h3⟩ := routes_pos h
  intro T
  rcases Nat.lt_or_ge T (tot l l.length) with hT | hT
  · have key : ∀ n, n ≤ l.length → T < tot l n → ∃ k j : Nat, k < l.length ∧ (j : Int) ≤ (l.getD k zg).2.2 ∧ T = tot l k + j := by
      intro n
      induction n with
      | zero => intro _ h; exact absurd h (Nat.not_lt_zero _)
      | succ n ih =>
        intro hn hTn
        rcases Nat.lt_or_ge T (tot l n) with h | h
        · exact ih (by omega) h
        · have h5 : T < tot l n + (l.getD n zg).2.2.toNat := hTn
          have := h3 n (by omega)
          exact ⟨n, T - tot l n, by omega, by omega, by omega⟩
    obtain ⟨k, j, hk, hj, rfl⟩ := key _ (Nat.le_refl _) hT
    rw [atV_in s l h3 hk hj]
    have h6 := h2 (k + 1) (by omega)
    unfold pos at h6
    exact okP_between (by omega) hj (h2 k (by omega)) h6
  · rw [atV_end s l h3 hT]
    exact h2 _ (Nat.le_refl _)
end
end Go.Proofs.Yteoifokmbkpbnaa

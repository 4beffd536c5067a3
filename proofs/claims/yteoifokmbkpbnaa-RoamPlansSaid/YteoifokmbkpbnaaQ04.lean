/-
  Walks and plain words (texts Sky9). No condition beyond those that each theorem states.
-/
import Derived.Test.YteoifokmbkpbnaaQ03
namespace Go.Proofs.Yteoifokmbkpbnaa
section
open Go.RowKit Go.Deep

theorem Try.infoCh : (Try.prog.info? 114).map (fun i => (i.zero, i.size, i.bytes)) = some (some (.agg #[.int .i64 0, .int .i64 0]), 2, 16) := by kernel_rfl

/-- As ChPost, the row in no block that was there. -/
def ChPostN (l : List (Int × Int)) (w : World) (e : Ending) (w' : World) : Prop := ∃ v, e = .returned (.tuple #[v, .int .i64 0]) ∧ (∀ N : List Nat, (∀ x ∈ N, x < w.heap.size) → RdS 2 ptc w' N v l) ∧ Only [] w w'

/-- What holds at a second of the loops. -/
structure ChW (w : World) (m : List (Int × Int)) (s : Int × Int) (l : List Lg) (T : Nat) (c ch : Value) (wr : World) : Prop where
  cx : Cx c (atV s l T).1 (atV s l T).2
  own : wr.ownsRow w.heap.size 114 2 ch (chs m s l T).length ((chs m s l T).flatMap ptc)
  only : Only [] w wr
theorem ChW.quiet {w wr w' : World} {m : List (Int × Int)} {s : Int × Int} {l : List Lg} {T : Nat} {c ch : Value} (h : ChW w m s l T c ch wr) (ho : Only [] wr w') : ChW w m s l T c ch w' := ⟨h.cx, own_only h.own ho (by simp), h.only.trans ho⟩
theorem ChW.post {w wr : World} {m : List (Int × Int)} {s : Int × Int} {l : List Lg} {T : Nat} {c ch : Value} (h : ChW w m s l T c ch wr) {L : List (Int × Int)} (hL : L = chs m s l T) : ChPostN L w (.returned (.tuple #[ch, .int .i64 0])) wr :=
  ⟨ch, rfl, fun N hN => by rw [hL]; exact (RdS.of_own ptc_len (by omega) h.own hN).1, h.only⟩

set_option maxRecDepth 100000 in
set_option maxHeartbeats 6400000 in
theorem changes_okN (w : World) (N M : List Nat) (mv lv : Value) (m : List (Int × Int)) (s : Int × Int) (l : List Lg) (u : Nat) (hm : RdS 2 ptc w N mv m) (hl : RdS 3 lgc w M lv l) (hml : m.length ≤ 1000) (hll : l.length ≤ 1000) (hmf : ∀ p ∈ m, Fit p) (hlf : ∀ g ∈ l, Fit3 g) (hsf : Fit s)
    (hmv : mastsV m = true) (hrv : routesV s l = true) (hu : u ≤ 100000) :
    Calls Try.prog 44 #[mv, .agg #[.int .i64 s.1, .int .i64 s.2, lv], .int .i64 u] w (ChPostN (chs m s l (min u (tot l l.length))) w) := by
  obtain ⟨i0, hi, hz0, hz1, hz2⟩ := info_parts Try.infoCh
  obtain ⟨Am, cm, rfl, _, _⟩ := hm.form
  obtain ⟨Al, cl, rfl, hcl, hclm⟩ := hl.form
  unfold maxLen at hclm
  have HO := hide ((Only.refl [] w).alloc (.cells #[.int .i64 s.1, .int .i64 s.2, .slice Al l.length cl] 98))
  have HB := hide (Blk.new w 98 #[.int .i64 s.1, .int .i64 s.2, .slice Al l.length cl])
  have HM := hide (show ∀ W, Only [] w W → _ from fun W ho => masts_any W N _ m (hm.only ho (by simp)) hml hmf)
  have HR := hide (show ∀ W, Only [] w W → _ from fun W ho => route_right W M _ s l (hl.only ho (by simp)) hll hlf hsf)
  have HMM := hide (masts_mem hmv)
  have HNE := hide (show ∀ W c p, Only [] w W → okP p = true → Cx c p.1 p.2 → _ from fun W c p ho hp hc => nearest_any W N _ c m p (hm.only ho (by simp)) hml HMM.out.1 hp hc)
  have HLV := hide (show ∀ W, Only [] w W → _ from fun W ho => hl.only (w' := W) (S := []) ho (by simp))
  have HMV := hide hmv
  have HRV := hide hrv
  have HRP := hide (routes_pos hrv)
  have HRA := hide (routes_at hrv)
  have HSB := hide (okP_bd (routes_lok hrv).1)
  have HSO := hide (routes_lok hrv).1
  obtain ⟨n, hn⟩ : ∃ n, n = l.length := ⟨_, rfl⟩
  have HN := hide hn
  rw [← hn] at HO HB HR HLV hcl hll ⊢
  have HLL := hide hll
  clear hm hl hmf hlf hsf hmv hrv hn hll
  have hu' : (u : Int) ≤ 100000 := by omega
  have hu2 : ¬ (100000 : Int) < u := by omega
  go_enter Try.func44, Try.ntmps44
  go_wp2_with (first
    | (go_at_call 59; refine (HM.out _ HO.out).mono ?_; rintro e w1 ⟨rfl, ho⟩; have HO1 := hide (HO.out.trans ho); have HB1 := hide (HB.out.only ho (by simp)); have k0 := HB1.out.cell 0; have k1 := HB1.out.cell 1; have k2 := HB1.out.cell 2; simp at k0 k1 k2; rw [HMV.out]; clear ho)
    | (go_at_call 48; refine (HR.out _ HO1.out).mono ?_; rintro e w2 ⟨rfl, ho⟩; have HO2 := hide (HO1.out.trans ho); have HB2 := hide (HB1.out.only ho (by simp)); clear k0 k1 k2; have k0 := HB2.out.cell 0; have k1 := HB2.out.cell 1; have k2 := HB2.out.cell 2; simp at k0 k1 k2; rw [HRV.out]; clear ho)
    | (go_at_call 60; refine (number_any _ s.1 s.2 (by have := HSB.out; omega) (by have := HSB.out; omega)).mono ?_; rintro e w3 ⟨c0, rfl, hc0, ho⟩; have HO3 := hide (HO2.out.trans ho); have HB3 := hide (HB2.out.only ho (by simp)); have HC0 := hide hc0; clear ho hc0)
    | (go_at_call 61; refine (HNE.out _ c0 s HO3.out HSO.out HC0.out).mono ?_; rintro e w4 ⟨rfl, ho⟩; have HO4 := hide (HO3.out.trans ho); have HB4 := hide ((HB3.out.only ho (by simp)).alloc (.cells #[.int .i64 0, .int .i64 ((nearV m s : Nat) : Int)] 114)); clear k0 k1 k2; have k2 := HB4.out.cell 2; simp at k2; clear ho))
  have HW0 := hide (show ChW w m s l 0 c0 (.slice (some ⟨w4.heap.size, 0, none⟩) 1 1) (w4.alloc (.cells #[.int .i64 0, .int .i64 ((nearV m s : Nat) : Int)] 114)) from by
    have e0 := atV_zero s l HRP.out.2.2
    refine ⟨by rw [e0]; exact HC0.out, ?_, HO4.out.alloc _⟩
    unfold chs
    rw [e0]
    exact ⟨rfl, .inr ⟨w4.heap.size, 1, _, rfl, HO4.out.size, heap_alloc_new w4 _, Nat.le_refl _, by unfold maxLen; omega, rfl, rfl⟩⟩)
  clear k2
  generalize (w4.alloc (.cells #[.int .i64 0, .int .i64 ((nearV m s : Nat) : Int)] 114)) = w5 at *
  generalize (Value.slice (some ⟨w4.heap.size, 0, none⟩) 1 1) = ch0 at *
  go_loopw [42, 11, 8, 9, 10] (fun i sec c ms ch wr => ∃ k : Nat, k ≤ n ∧ i = .int .i64 k ∧ sec = .int .i64 (tot l k : Nat) ∧ ms = .int .i64 (nearV m (atV s l (tot l k)) : Nat) ∧ Hid (tot l k ≤ u) ∧ Hid (ChW w m s l (tot l k) c ch wr)) (fun i _ _ _ _ _ => n - (intOf i).toNat)
  case atStart => exact ⟨0, Nat.zero_le _, rfl, rfl, by rw [show tot l 0 = 0 from rfl, atV_zero s l HRP.out.2.2], hide (Nat.zero_le _), HW0⟩
  case round =>
    obtain ⟨k, hk, rfl, rfl, rfl, htu, hw⟩ := hrel
    by_cases hlt : k < n
    · have hlt' : (k : Int) < n := by omega
      have hkl := hide (show k < l.length by rw [← HN.out]; exact hlt)
      obtain ⟨g, o, rfl, _, hg⟩ := (HLV.out w (Only.refl _ _)).addr (by rw [← HN.out]; omega)
      obtain ⟨c1, c2, c3⟩ := lgs_cell (HLV.out _ hw.out.only) hkl.out
      have HLG := hide (legOk_bd (HRP.out.1 k hkl.out))
      have HIN := hide (show ∀ j : Nat, _ from fun j => atV_in s l HRP.out.2.2 (j := j) hkl.out)
      have HTS := hide (show tot l (k + 1) = tot l k + (l.getD k zg).2.2.toNat from rfl)
      have HTN := hide (show tot l (k + 1) ≤ tot l n by rw [HN.out]; exact tot_mono l hkl.out)
      have HK0 := hide (atV_tot s l HRP.out.2.2 (show k ≤ l.length by have := hkl.out; omega))
      generalize l.getD k zg = x at *
      obtain ⟨x1, x2, x3⟩ := x
      simp only at c1 c2 c3
      obtain ⟨Tk, hTk⟩ : ∃ Tk, Tk = tot l k := ⟨_, rfl⟩
      rw [← hTk] at hw htu HIN HTS HK0 ⊢
      have HTK := hide hTk
      clear hTk
      have HX3 := hide (show 0 ≤ x3 ∧ x3 ≤ 10000 by have := HLG.out; simp only at this; omega)
      have hx3 : x3 ≤ 10000 := HX3.out.2
      have hx30 : 0 ≤ x3 := HX3.out.1
      have HNUM := hide (show ∀ W, _ from fun W => number_any W x1 x2 (by have := HLG.out; simp only at this; omega) (by have := HLG.out; simp only at this; omega))
      have HBL := hide (Blk.new wr 104 #[.int .i64 x1, .int .i64 x2, .int .i64 x3])
      have HWL := hide (hw.out.quiet ((Only.refl [] wr).alloc (.cells #[.int .i64 x1, .int .i64 x2, .int .i64 x3] 104)))
      have htu' : Tk ≤ 100000 := by have := htu.out; omega
      go_wp2_with (go_at_call 60; refine (HNUM.out _).mono ?_; rintro e w6 ⟨cx, rfl, hcx, ho⟩; have HCX := hide hcx; have HW6 := hide (HWL.out.quiet ho); have hB6 := HBL.out.only ho (by simp); have z0 := hB6.cell 0; have z1 := hB6.cell 1; have z2 := hB6.cell 2; simp at z0 z1 z2; clear ho hcx hB6)
      clear z0 z1 z2
      go_loopw [51, 11, 8, 9, 10] (fun i sec c ms ch wr => ∃ j T : Nat, (j : Int) ≤ x3 ∧ Hid (T = Tk + j) ∧ i = .int .i64 j ∧ sec = .int .i64 (T : Nat) ∧ ms = .int .i64 (nearV m (atV s l T) : Nat) ∧ T ≤ u ∧ Hid (ChW w m s l T c ch wr)) (fun i _ _ _ _ _ => (x3 - intOf i).toNat)
      case atStart => exact ⟨0, Tk, hx30, hide rfl, rfl, rfl, rfl, htu.out, HW6⟩
      case round =>
        obtain ⟨j, T, hj, hT, rfl, rfl, rfl, hTu, hwj⟩ := hrel
        by_cases hjlt : (j : Int) < x3
        · by_cases hend : T = u
          · have hend' : (u : Int) < (T : Int) + 1 := by omega
            have HEND := hide (show chs m s l (min u (tot l n)) = chs m s l T from by
              have h1 := HTS.out
              have h2 := HTN.out
              have h3 := hT.out
              rw [show min u (tot l n) = T by omega])
            clear hend
            go_wp2_with fail
            go_ret2
            exact hwj.out.post HEND.out
          · have hend' : ¬ (u : Int) < (T : Int) + 1 := by omega
            have hq0 := HIN.out j (by omega)
            have hq1 := HIN.out (j + 1) (by omega)
            rw [← hT.out] at hq0
            rw [show Tk + (j + 1) = T + 1 by have := hT.out; omega] at hq1
            have hb0 := okP_bd (HRA.out T)
            have hb1 := okP_bd (HRA.out (T + 1))
            have HOK1 := hide (HRA.out (T + 1))
            have hcx := hwj.out.cx
            have hx1 : (atV s l (T + 1)).1 = (atV s l T).1 + x1 := by rw [hq0, hq1]; simp only; rw [show ((j + 1 : Nat) : Int) = (j : Int) + 1 by omega, Int.mul_add]; omega
            have hx2 : (atV s l (T + 1)).2 = (atV s l T).2 + x2 := by rw [hq0, hq1]; simp only; rw [show ((j + 1 : Nat) : Int) = (j : Int) + 1 by omega, Int.mul_add]; omega
            obtain ⟨cn, hadd, hcn⟩ := cx_add hcx HCX.out (by rw [← hx1]; omega) (by rw [← hx2]; omega)
            rw [← hx1, ← hx2] at hcn
            have HCN := hide hcn
            have HSAME := hide (@chs_same m s l T)
            have HNEW := hide (@chs_new m s l T)
            have HNR := hide (HNE.out)
            have HLEN := hide (chs_len m s l T)
            clear hq0 hq1 hb0 hb1 hcx hx1 hx2 hcn
            have hTI : (T : Int) ≤ 100000 := by omega
            have hTN : T ≤ 100000 := by omega
            generalize hna : nearV m (atV s l (T + 1)) = na at *
            generalize hnb : nearV m (atV s l T) = nb at *
            have HNA := hide hna
            clear hna
            by_cases hne : na = nb
            · have hneB : ((na : Int) != (nb : Int)) = false := by rw [bne_eq_false_iff_eq]; omega
              have HS := hide (HSAME.out hne)
              have HNN := hide hne
              clear hne
              go_wp2_with (go_at_call 61; refine (HNR.out _ cn (atV s l (T + 1)) hwj.out.only HOK1.out HCN.out).mono ?_; rw [HNA.out]; rintro e w7 ⟨rfl, ho⟩; have HW7 := hide (show ChW w m s l (T + 1) cn _ w7 from ⟨HCN.out, by rw [HS.out]; exact (hwj.out.quiet ho).own, (hwj.out.quiet ho).only⟩); clear ho)
              go_roundw
              case rel => exact ⟨j + 1, T + 1, by omega, hide (by have := hT.out; omega), by go_num, by go_num, by rw [HNA.out, HNN.out], by omega, HW7⟩
              case measure => simp [intOf]; omega
            · have hneB : ((na : Int) != (nb : Int)) = true := by rw [bne_iff_ne]; omega
              have HS := hide (HNEW.out hne)
              clear hne
              go_wp2_with (first
                | (go_at_call 61; refine (HNR.out _ cn (atV s l (T + 1)) hwj.out.only HOK1.out HCN.out).mono ?_; rw [HNA.out]; rintro e w7 ⟨rfl, ho⟩; have HW7 := hide (hwj.out.quiet ho); have HOW7 := hide (World.ownsRow.alloc HW7.out.own (.cells #[.int .i64 ((T : Int) + 1), .int .i64 (na : Int)] 114)); have HO7 := hide (HW7.out.only.alloc (.cells #[.int .i64 ((T : Int) + 1), .int .i64 (na : Int)] 114)); have HRN := hide (reads_new w7 114 (ptc ((T : Int) + 1, (na : Int))) (w7.heap.size + 1) 2 rfl (by omega)); clear ho)
                | (at_builtin; refine wpList_append_any _ rfl (.tmp 69) (.tmp 73) 110 rfl w.heap.size 114 i0 (.agg #[.int .i64 0, .int .i64 0]) 2 16 Try.underlying110 hi hz0 hz1 hz2 rfl (by decide) _ (chs m s l T).length _ rfl HOW7.out (w7.heap.size + 1) (some ⟨w7.heap.size, 0, none⟩) 1 1 (ptc ((T : Int) + 1, (na : Int))) rfl HRN.out (by simp [ptc, Value.oneCell']) (by have := HLEN.out; unfold maxLen; omega) (by have := HLEN.out; omega) HO7.out.size ?_; intro v1 w8 hown1 hg1 _; have HOW8 := hide (own_snoc hown1); have HO8 := hide (HO7.out.grown hg1 (fun j hj => .inr (own_block_ge HOW7.out hj))); clear hown1 hg1))
              have HW8 := hide (show ChW w m s l (T + 1) cn v1 w8 from ⟨HCN.out, by rw [HS.out, List.length_append, List.length_singleton, show ((T + 1 : Nat) : Int) = (T : Int) + 1 by omega]; exact HOW8.out, HO8.out⟩)
              go_roundw
              case rel => exact ⟨j + 1, T + 1, by omega, hide (by have := hT.out; omega), by go_num, by go_num, by rw [HNA.out], by omega, HW8⟩
              case measure => simp [intOf]; omega
        · have hjx : (j : Int) = x3 := by omega
          have HEQ := hide (show T = tot l (k + 1) by
            have h1 := HTS.out
            have h3 := hT.out
            omega)
          clear hjx
          go_wp2_with fail
          go_roundw
          case rel => exact ⟨k + 1, by omega, by go_num, by rw [← HEQ.out], by rw [← HEQ.out], hide (by rw [← HEQ.out]; exact hTu), by rw [← HEQ.out]; exact hwj⟩
          case measure => simp [intOf]; omega
    · have hlt' : ¬ (k : Int) < n := by omega
      obtain rfl : k = n := by omega
      have HEND := hide (show chs m s l (min u (tot l k)) = chs m s l (tot l k) by rw [Nat.min_eq_right htu.out])
      go_wp2_with fail
      go_ret2
      exact hw.out.post HEND.out
end
end Go.Proofs.Yteoifokmbkpbnaa

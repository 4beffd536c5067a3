/-
  Contracts of the reference's Length and Turn, and of sky's Route.Length and At, by walking.
-/
import Derived.Test.YtkihjgcjapkgpaaSkyB
namespace Go.Proofs.Ytkihjgcjapkgpaa
open Go.RowKit Go.Deep

def turn1 (p : Int × Int) : Int × Int := (-p.2, p.1)
def turnN (p : Int × Int) : Nat → Int × Int
  | 0 => p
  | k + 1 => turn1 (turnN p k)
/-- A point turned by quarters. -/
def turnV (p : Int × Int) (q : Int) : Int × Int := turnN p (q % 4).toNat
theorem okP_turn1 {p : Int × Int} (h : okP p = true) : okP (turn1 p) = true := by
  have := okP_bd h
  exact decide_eq_true (by unfold turn1; simp only; omega)
theorem okP_turnN {p : Int × Int} (h : okP p = true) : ∀ k, okP (turnN p k) = true
  | 0 => h
  | k + 1 => okP_turn1 (okP_turnN h k)

set_option maxRecDepth 100000 in
theorem length_ref (w : World) (N : List Nat) (v : Value) (s : Int × Int) (l : List Lg) (hv : RdS 3 lgc w N v l) (hr : routesV s l = true) :
    Calls Try.prog 26 #[v] w fun e w' => e = .returned (.int .i64 (tot l l.length : Nat)) ∧ w = w' := by
  obtain ⟨A, cap, rfl, hc, hm⟩ := hv.form
  unfold maxLen at hm
  have HV := hide hv
  obtain ⟨n, hn⟩ : ∃ n, n = l.length := ⟨_, rfl⟩
  have HN := hide hn
  have hl := (routes_lok hr).2.1
  rw [← hn] at hl hc HV ⊢
  have HLG := hide (routes_pos hr).1
  have HTL := hide (tot_le hr)
  clear hv hn hr
  go_enter Try.func26, Try.ntmps26
  go_wp2_with fail
  go_loop [4, 3] (fun i t => ∃ k : Nat, k ≤ n ∧ i = .int .i64 k ∧ t = .int .i64 (tot l k : Nat)) (fun i _ => n - (intOf i).toNat)
  case atStart => exact ⟨0, Nat.zero_le _, rfl, rfl⟩
  case round =>
    obtain ⟨k, hk, rfl, rfl⟩ := hrel
    by_cases hlt : k < n
    · have hlt' : (k : Int) < n := by omega
      have hkl := hide (show k < l.length by rw [← HN.out]; exact hlt)
      obtain ⟨g, o, rfl, _, hg⟩ := HV.out.addr (by rw [← HN.out]; omega)
      obtain ⟨c1, c2, c3⟩ := lgs_cell HV.out hkl.out
      have hlg := legOk_bd (HLG.out k hkl.out)
      have htk := HTL.out k (Nat.le_of_lt hkl.out)
      have HSUC := hide (show tot l (k + 1) = tot l k + (l.getD k zg).2.2.toNat from rfl)
      generalize tot l k = T at *
      generalize l.getD k zg = x at *
      obtain ⟨x1, x2, x3⟩ := x
      simp only at c1 c2 c3 hlg
      have h1 : 1 ≤ x3 := hlg.2.2.1
      have h2 : x3 ≤ 10000 := hlg.2.2.2
      have hT : T ≤ 1000000 := by omega
      have HX := hide (show ((T + x3.toNat : Nat) : Int) = (T : Int) + x3 by omega)
      clear hlg htk
      go_wp2_with fail
      go_round
      case rel => exact ⟨k + 1, by omega, by go_num, by rw [HSUC.out, HX.out]⟩
      case measure => simp [intOf]; omega
    · have hlt' : ¬ (k : Int) < n := by omega
      obtain rfl : k = n := by omega
      go_wp2_with fail
      go_ret
      exact ⟨rfl, rfl⟩

set_option maxRecDepth 100000 in
set_option maxHeartbeats 1600000 in
theorem length_any (w : World) (N : List Nat) (v : Value) (s : Int × Int) (l : List Lg) (hv : RdS 3 lgc w N v l) (hl : l.length ≤ 1000) (hfit : ∀ g ∈ l, Fit3 g) (hsf : Fit s) :
    Calls Try.prog 25 #[.agg #[.int .i64 s.1, .int .i64 s.2, v]] w (NumPost (if routesV s l then (tot l l.length : Nat) else 0) w) := by
  have HRR := hide (show ∀ W, Only [] w W → _ from fun W ho => route_right W N v s l (hv.only ho (by simp)) hl hfit hsf)
  obtain ⟨A, cap, rfl, hc, hm⟩ := hv.form
  unfold maxLen at hm
  have HV := hide hv
  obtain ⟨n, hn⟩ : ∃ n, n = l.length := ⟨_, rfl⟩
  have HN := hide hn
  rw [← hn] at hl hc HV HRR ⊢
  clear hv hn hfit hsf
  have HB := hide (Blk.new w 41 #[.int .i64 s.1, .int .i64 s.2, .slice A n cap])
  have HO := hide ((Only.refl [] w).alloc (.cells #[.int .i64 s.1, .int .i64 s.2, .slice A n cap] 41))
  cases hrv : routesV s l with
  | false =>
    have HRV := hide hrv
    clear hrv
    go_enter Try.func25, Try.ntmps25
    go_wp2_with (go_at_call 23; refine (HRR.out _ HO.out).mono ?_; rintro e w1 ⟨rfl, ho⟩; have HO1 := hide (HO.out.trans ho); rw [HRV.out]; clear ho)
    go_ret
    exact numpost rfl HO1.out
  | true =>
    have HLG := hide (routes_pos hrv).1
    have HTL := hide (tot_le hrv)
    have h64 : n ≤ 64 := by have := (routes_lok hrv).2.1; have := HN.out; omega
    have HRV := hide hrv
    clear hrv
    go_enter Try.func25, Try.ntmps25
    go_wp2_with (go_at_call 23; refine (HRR.out _ HO.out).mono ?_; rintro e w1 ⟨rfl, ho⟩; have HO1 := hide (HO.out.trans ho); have hB1 := HB.out.only ho (by simp); have k2 := hB1.cell 2; simp at k2; rw [HRV.out]; clear ho hB1)
    clear k2
    go_loopw [12, 3] (fun i t wr => ∃ k : Nat, k ≤ n ∧ i = .int .i64 k ∧ t = .int .i64 (tot l k : Nat) ∧ Hid (Only [] w wr)) (fun i _ _ => n - (intOf i).toNat)
    case atStart => exact ⟨0, Nat.zero_le _, rfl, rfl, HO1⟩
    case round =>
      obtain ⟨k, hk, rfl, rfl, ho⟩ := hrel
      by_cases hlt : k < n
      · have hlt' : (k : Int) < n := by omega
        have hkl := hide (show k < l.length by rw [← HN.out]; exact hlt)
        obtain ⟨g, o, rfl, _, hg⟩ := HV.out.addr (by rw [← HN.out]; omega)
        obtain ⟨c1, c2, c3⟩ := lgs_cell (HV.out.only ho.out (by simp)) hkl.out
        have hlg := legOk_bd (HLG.out k hkl.out)
        have htk := HTL.out k (Nat.le_of_lt hkl.out)
        have HSUC := hide (show tot l (k + 1) = tot l k + (l.getD k zg).2.2.toNat from rfl)
        generalize tot l k = T at *
        generalize l.getD k zg = x at *
        obtain ⟨x1, x2, x3⟩ := x
        simp only at c1 c2 c3 hlg
        have h1 : 1 ≤ x3 := hlg.2.2.1
        have h2 : x3 ≤ 10000 := hlg.2.2.2
        have hT : T ≤ 1000000 := by omega
        have HX := hide (show ((T + x3.toNat : Nat) : Int) = (T : Int) + x3 by omega)
        clear hlg htk
        go_wp2_with fail
        go_roundw
        case rel => exact ⟨k + 1, by omega, by go_num, by rw [HSUC.out, HX.out], hide (ho.out.alloc _)⟩
        case measure => simp [intOf]; omega
      · have hlt' : ¬ (k : Int) < n := by omega
        obtain rfl : k = n := by omega
        have HEQ := hide (show ((tot l l.length : Nat) : Int) = (tot l k : Nat) by rw [← HN.out])
        go_wp2_with fail
        go_ret
        refine numpost ?_ ho.out
        first
        | rfl
        | exact HEQ.out

theorem tmod_four (q : Int) : (0 ≤ q → q.tmod 4 = q % 4) ∧ (q < 0 → q.tmod 4 = -((-q) % 4)) := by
  refine ⟨fun h => Int.tmod_eq_emod_of_nonneg h, fun h => ?_⟩
  have h1 : (-q).tmod 4 = (-q) % 4 := Int.tmod_eq_emod_of_nonneg (by omega)
  rw [← h1, Int.neg_tmod, Int.neg_neg]

set_option maxRecDepth 100000 in
set_option maxHeartbeats 1600000 in
theorem turn_ref (w : World) (p : Int × Int) (q : Int) (hp : okP p = true) (hq1 : -9223372036854775808 ≤ q) (hq2 : q ≤ 9223372036854775807) :
    Calls Try.prog 20 #[pt p, .int .i64 q] w (PtPost (turnV p q) w) := by
  have HO0 := hide (((Only.refl [] w).alloc (.cells #[.int .i64 p.1, .int .i64 p.2] 33)).alloc (.cells #[.int .i64 0, .int .i64 0] 33))
  have hB := (Blk.new w 33 #[.int .i64 p.1, .int .i64 p.2]).alloc (.cells #[.int .i64 0, .int .i64 0] 33)
  have hR := Blk.new (w.alloc (.cells #[.int .i64 p.1, .int .i64 p.2] 33)) 33 #[.int .i64 0, .int .i64 0]
  rw [World.size_alloc] at hR
  have HB := hide hB
  have HR := hide hR
  have HP := hide hp
  clear hB hR hp
  obtain ⟨n, hn⟩ : ∃ n : Nat, n = (q % 4).toNat := ⟨_, rfl⟩
  have HV := hide (show turnV p q = turnN p n by unfold turnV; rw [hn])
  have hn4 : n < 4 := by omega
  unfold pt
  by_cases hneg : q.tmod 4 < 0
  case pos =>
    have hnn : q.tmod 4 + 4 = n := by
      have h1 := tmod_four q
      omega
    have HNN := hide hnn
    have hb1 : -4 < q.tmod 4 := by have h1 := tmod_four q; omega
    clear hn hnn
    go_enter Try.func20, Try.ntmps20
    go_wp2_with fail
    rw [HNN.out]
    have HNB := hide (show w.heap.size < w.heap.size + 1 from Nat.lt_succ_self _)
    generalize ((w.alloc (.cells #[.int .i64 p.1, .int .i64 p.2] 33)).alloc (.cells #[.int .i64 0, .int .i64 0] 33)) = w0 at *
    go_loopw [6] (fun i wr => ∃ k : Nat, k ≤ n ∧ i = .int .i64 k ∧ Hid (Blk wr w.heap.size 33 #[.int .i64 (turnN p k).1, .int .i64 (turnN p k).2]) ∧ Hid (Blk wr (w.heap.size + 1) 33 #[.int .i64 0, .int .i64 0]) ∧ Hid (Only [] w wr)) (fun i _ => n - (intOf i).toNat)
    case atStart => exact ⟨0, Nat.zero_le _, rfl, HB, HR, HO0⟩
    case round =>
      obtain ⟨k, hk, rfl, hblk, hres, ho⟩ := hrel
      have q0 := hblk.out.cell 0
      have q1 := hblk.out.cell 1
      have z := hblk.out.frozen
      simp at q0 q1
      by_cases hlt : k < n
      · have hlt' : (k : Int) < n := by omega
        have hpb := okP_bd (okP_turnN HP.out k)
        have HSUC := hide (show turnN p (k + 1) = (-(turnN p k).2, (turnN p k).1) from rfl)
        generalize turnN p k = x at *
        obtain ⟨x1, x2⟩ := x
        simp only at q0 q1 hpb
        obtain ⟨⟨b11, b12⟩, b21, b22⟩ := hpb
        go_wp2_with fail
        go_roundw
        case rel => exact ⟨k + 1, by omega, by go_num, hide (by rw [HSUC.out]; exact (hblk.out.set_ 0 _).set_ 1 _), hide ((hres.out.far (p := ⟨w.heap.size, 0, none⟩) (by simp) _).far (p := ⟨w.heap.size, 1, none⟩) (by simp) _), hide ((ho.out.setCell (p := ⟨w.heap.size, 0, none⟩) (.inr (by simp)) _).setCell (p := ⟨w.heap.size, 1, none⟩) (.inr (by simp)) _)⟩
        case measure => simp [intOf]; omega
      · have hlt' : ¬ (k : Int) < n := by omega
        obtain rfl : k = n := by omega
        have r0 := hres.out.cell 0
        have r1 := hres.out.cell 1
        have rz := hres.out.frozen
        simp at r0 r1
        go_wp2_with fail
        refine bodyPost_ret (v := pt (turnN p k)) ?_ rfl ⟨by rw [HV.out], ?_⟩
        · simp [results, Try.results20, go_sem, pt, r0, r1]
        · exact (ho.out.setCell (p := ⟨w.heap.size + 1, 0, none⟩) (.inr (by simp)) _).setCell (p := ⟨w.heap.size + 1, 1, none⟩) (.inr (by simp)) _
  case neg =>
    have hnn : q.tmod 4 = n := by
      have h1 := tmod_four q
      omega
    have HNN := hide hnn
    have hb1 : q.tmod 4 < 4 := by have h1 := tmod_four q; omega
    clear hn hnn
    go_enter Try.func20, Try.ntmps20
    go_wp2_with fail
    rw [HNN.out]
    have HNB := hide (show w.heap.size < w.heap.size + 1 from Nat.lt_succ_self _)
    generalize ((w.alloc (.cells #[.int .i64 p.1, .int .i64 p.2] 33)).alloc (.cells #[.int .i64 0, .int .i64 0] 33)) = w0 at *
    go_loopw [6] (fun i wr => ∃ k : Nat, k ≤ n ∧ i = .int .i64 k ∧ Hid (Blk wr w.heap.size 33 #[.int .i64 (turnN p k).1, .int .i64 (turnN p k).2]) ∧ Hid (Blk wr (w.heap.size + 1) 33 #[.int .i64 0, .int .i64 0]) ∧ Hid (Only [] w wr)) (fun i _ => n - (intOf i).toNat)
    case atStart => exact ⟨0, Nat.zero_le _, rfl, HB, HR, HO0⟩
    case round =>
      obtain ⟨k, hk, rfl, hblk, hres, ho⟩ := hrel
      have q0 := hblk.out.cell 0
      have q1 := hblk.out.cell 1
      have z := hblk.out.frozen
      simp at q0 q1
      by_cases hlt : k < n
      · have hlt' : (k : Int) < n := by omega
        have hpb := okP_bd (okP_turnN HP.out k)
        have HSUC := hide (show turnN p (k + 1) = (-(turnN p k).2, (turnN p k).1) from rfl)
        generalize turnN p k = x at *
        obtain ⟨x1, x2⟩ := x
        simp only at q0 q1 hpb
        obtain ⟨⟨b11, b12⟩, b21, b22⟩ := hpb
        go_wp2_with fail
        go_roundw
        case rel => exact ⟨k + 1, by omega, by go_num, hide (by rw [HSUC.out]; exact (hblk.out.set_ 0 _).set_ 1 _), hide ((hres.out.far (p := ⟨w.heap.size, 0, none⟩) (by simp) _).far (p := ⟨w.heap.size, 1, none⟩) (by simp) _), hide ((ho.out.setCell (p := ⟨w.heap.size, 0, none⟩) (.inr (by simp)) _).setCell (p := ⟨w.heap.size, 1, none⟩) (.inr (by simp)) _)⟩
        case measure => simp [intOf]; omega
      · have hlt' : ¬ (k : Int) < n := by omega
        obtain rfl : k = n := by omega
        have r0 := hres.out.cell 0
        have r1 := hres.out.cell 1
        have rz := hres.out.frozen
        simp at r0 r1
        go_wp2_with fail
        refine bodyPost_ret (v := pt (turnN p k)) ?_ rfl ⟨by rw [HV.out], ?_⟩
        · simp [results, Try.results20, go_sem, pt, r0, r1]
        · exact (ho.out.setCell (p := ⟨w.heap.size + 1, 0, none⟩) (.inr (by simp)) _).setCell (p := ⟨w.heap.size + 1, 1, none⟩) (.inr (by simp)) _
end Go.Proofs.Ytkihjgcjapkgpaa

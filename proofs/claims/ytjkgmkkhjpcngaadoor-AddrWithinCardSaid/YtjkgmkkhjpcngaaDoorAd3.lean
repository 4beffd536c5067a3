/-
  addr.plain, addr.Has, addr.Within and addr.Plain: by walking.
-/
import Derived.Test.YtjkgmkkhjpcngaaDoorAd2
import Derived.Test.YtjkgmkkhjpcngaaDoorAd5
namespace Go.Proofs.YtjkgmkkhjpcngaaDoor
open Go.RowKit Go.Deep

def isPlain (l : List UInt8) (b : Int) : Bool := rightV l b && decide (plainP l b.toNat)

set_option maxHeartbeats 3200000 in
theorem plain_any (v : Value) (l : List UInt8) (b : Int) (N : List Nat) (w : World) (hv : Rd w N v (ints .u8 (byts l))) :
    Calls Tryd.prog 52 #[.agg #[v, .int .i64 b]] w (RetB (isPlain l b) w) := by
  have HO := hide ((Only.refl [] w).alloc (.cells #[v, .int .i64 b] 36))
  have HV := hide ((hv.less (N' := []) (fun x hx => by cases hx)).only HO.out (by simp))
  have HBX := hide (Blk.new w 36 #[v, .int .i64 b])
  obtain ⟨A, cap, rfl, hcp, hcm⟩ := hv.formb
  clear hv
  obtain ⟨n, hn⟩ : ∃ n, n = l.length := ⟨_, rfl⟩
  rw [← hn] at HV HBX HO hcp ⊢
  have HN := hide hn
  cases hr : rightV l b with
  | false =>
    have HR := hide (show isPlain l b = false by unfold isPlain; rw [hr]; rfl)
    have HRR := hide (show rightN n b = false by rw [hn]; exact hr)
    clear hr hn
    go_enter Tryd.func52, Tryd.ntmps52
    go_wp2_with (go_at_call 21; refine (right_any _ _ _ _ false HRR.out _).mono ?_; rintro e w1 ⟨rfl, ho⟩; have HC := hide (HO.out.trans ho); clear ho)
    go_ret
    exact retb HR.out HC.out
  | true =>
    have HRR := hide (show rightN n b = true by rw [hn]; exact hr)
    obtain ⟨bn, rfl, hbn, h416⟩ := right_nat2 hr
    have hl1000 : n ≤ 16 := by omega
    rw [← hn] at hbn
    have HR := hide (show isPlain l (bn : Int) = decide (plainP l bn) by unfold isPlain; rw [hr]; rfl)
    clear hr hn h416
    go_enter Tryd.func52, Tryd.ntmps52
    go_wp2_with (go_at_call 21; refine (right_any _ _ _ _ true HRR.out _).mono ?_; rintro e w1 ⟨rfl, ho⟩; have HC := hide (HO.out.trans ho); have HV := hide (HV.out.only ho (by simp)); have HBX := hide (HBX.out.only ho (by simp)); have c0 := HBX.out.cell 0; have c1 := HBX.out.cell 1; simp at c0 c1; clear ho)
    go_loopw [11] (fun i wr => ∃ k : Nat, k ≤ n ∧ i = .int .i64 k ∧ Hid (∀ j, j < k → (l.getD j 0).toNat &&& maskN j bn = (l.getD j 0).toNat) ∧ w1 = wr) (fun i _ => n - (intOf i).toNat)
    case atStart => exact ⟨0, Nat.zero_le _, rfl, hide (fun j hj => by omega), rfl⟩
    case round =>
      obtain ⟨k, hk, rfl, HS, rfl⟩ := hrel
      by_cases hlt : k < n
      · have hltI : (k : Int) < n := by omega
        have hg1 := getD_some (l := l) (k := k) (by rw [← HN.out]; exact hlt)
        obtain ⟨g, o, rfl, _, hg, hcell⟩ := HV.out.at_.2.2.2 k _ (ints_get (byts_get hg1))
        have hc1 := UInt8.toNat_lt (l.getD k 0)
        obtain ⟨c, hcc⟩ : ∃ c, c = (l.getD k 0).toNat := ⟨_, rfl⟩
        obtain ⟨M, hMM⟩ : ∃ M, M = maskN k bn := ⟨_, rfl⟩
        rw [← hcc] at hcell hc1
        have hM := mask_lt k bn
        have han := andnot0 c k bn hc1
        rw [← hMM] at hM han
        have hand := u8_andNot_nat c M hc1 hM
        have HK := hide (fun W => hMM ▸ mask_any k bn W (by omega) (by omega))
        have HC' := hide hcc
        have HMM := hide hMM
        by_cases he : c &&& M = c
        · have h0 := han.2 he
          have HE := hide he
          rw [h0] at hand
          clear he h0 hcc hMM hM hg1 hc1 han
          go_wp2_with (go_at_call 42; refine (HK.out _).mono ?_; rintro e w1 ⟨rfl, rfl⟩)
          go_roundw
          case rel => exact ⟨k + 1, by omega, by go_num, hide (fun j hj => by
            by_cases hjk : j = k
            · subst hjk; rw [← HC'.out, ← HMM.out]; exact HE.out
            · exact HS.out j (by omega)), (by first | rfl | trivial)⟩
          case measure => simp [intOf]; omega
        · have HE := hide he
          have hne : (c &&& (255 - M)) ≠ 0 := fun h => he (han.1 h)
          have hneI : ¬ ((c &&& (255 - M) : Nat) : Int) = 0 := by omega
          generalize c &&& (255 - M) = z at *
          clear he hne hcc hMM hM hg1 hc1 han
          go_wp2_with (go_at_call 42; refine (HK.out _).mono ?_; rintro e w1 ⟨rfl, rfl⟩)
          go_ret
          refine retb (HR.out.trans (decide_eq_false fun h => ?_)) HC.out
          have := h k (by rw [← HN.out]; exact hlt)
          rw [← HC'.out, ← HMM.out] at this
          exact HE.out this
      · obtain rfl : k = n := by omega
        have hge : ¬ (k : Int) < k := by omega
        go_wp2_with fail
        go_ret
        exact retb (HR.out.trans (decide_eq_true fun j hj => HS.out j (by rw [HN.out]; exact hj))) HC.out

set_option maxHeartbeats 3200000 in
theorem has_any (v u : Value) (l m : List UInt8) (b : Int) (N M : List Nat) (w : World) (hv : Rd w N v (ints .u8 (byts l))) (hu : Rd w M u (ints .u8 (byts m))) :
    Calls Tryd.prog 23 #[.agg #[v, .int .i64 b], u] w (RetB (hasV l b m) w) := by
  have HO := hide ((Only.refl [] w).alloc (.cells #[v, .int .i64 b] 36))
  have HV := hide ((hv.less (N' := []) (fun x hx => by cases hx)).only HO.out (by simp))
  have HU := hide ((hu.less (N' := []) (fun x hx => by cases hx)).only HO.out (by simp))
  have HBX := hide (Blk.new w 36 #[v, .int .i64 b])
  obtain ⟨A, cap, rfl, hcp, hcm⟩ := hv.formb
  obtain ⟨A', cap', rfl, hcp', hcm'⟩ := hu.formb
  clear hv hu
  obtain ⟨n, hn⟩ : ∃ n, n = l.length := ⟨_, rfl⟩
  obtain ⟨n', hn'⟩ : ∃ n', n' = m.length := ⟨_, rfl⟩
  rw [← hn] at HV HU HBX HO hcp ⊢
  rw [← hn'] at HU hcp' ⊢
  have HN := hide hn
  have HN' := hide hn'
  cases hr : rightV l b with
  | false =>
    have HR := hide (show hasV l b m = false by unfold hasV; rw [hr]; rfl)
    have HRR := hide (show rightN n b = false by rw [hn]; exact hr)
    clear hr hn hn'
    go_enter Tryd.func23, Tryd.ntmps23
    go_wp2_with (go_at_call 21; refine (right_any _ _ _ _ false HRR.out _).mono ?_; rintro e w1 ⟨rfl, ho⟩; have HC := hide (HO.out.trans ho); clear ho)
    go_ret
    exact retb HR.out HC.out
  | true =>
    have HRR := hide (show rightN n b = true by rw [hn]; exact hr)
    by_cases hl : n' = n
    · obtain ⟨bn, rfl, hbn, h416⟩ := right_nat2 hr
      have hl1000 : n ≤ 16 := by omega
      have HNN := hide (hn'.symm.trans (hl.trans hn))
      subst hl
      rw [← hn] at hbn
      have HR := hide (show hasV l (bn : Int) m = decide (sameP l m bn) by unfold hasV; rw [hr, decide_eq_true HNN.out]; rfl)
      clear hr hn hn' h416
      go_enter Tryd.func23, Tryd.ntmps23
      go_wp2_with (first
        | (go_at_call 21; refine (right_any _ _ _ _ true HRR.out _).mono ?_; rintro e w1 ⟨rfl, ho⟩; have HC := hide (HO.out.trans ho); have HV := hide (HV.out.only ho (by simp)); have HU := hide (HU.out.only ho (by simp)); have HBX := hide (HBX.out.only ho (by simp)); have c0 := HBX.out.cell 0; have c1 := HBX.out.cell 1; simp at c0 c1; clear ho)
        | (go_at_call 44; refine (same_any _ _ l m _ _ bn _ HV.out HU.out HNN.out (by rw [← HN.out]; omega) (by omega)).mono ?_; rintro e w2 ⟨rfl, ho⟩; have HC := hide (HC.out.trans ho); clear ho))
      go_ret
      exact retb HR.out HC.out
    · have hlI : ((n' : Int) == n) = false := by rw [beq_eq_false_iff_ne]; omega
      have HR := hide (show hasV l b m = false by unfold hasV; rw [decide_eq_false (show ¬ m.length = l.length by rw [← hn, ← hn']; exact hl)]; simp)
      clear hr hn hn' hl
      go_enter Tryd.func23, Tryd.ntmps23
      go_wp2_with (go_at_call 21; refine (right_any _ _ _ _ true HRR.out _).mono ?_; rintro e w1 ⟨rfl, ho⟩; have HC := hide (HO.out.trans ho); have HBX := hide (HBX.out.only ho (by simp)); have c0 := HBX.out.cell 0; have c1 := HBX.out.cell 1; simp at c0 c1; clear ho)
      go_ret
      exact retb HR.out HC.out
end Go.Proofs.YtjkgmkkhjpcngaaDoor

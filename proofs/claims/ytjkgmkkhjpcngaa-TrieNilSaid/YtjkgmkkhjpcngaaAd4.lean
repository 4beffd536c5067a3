/-
  The reference's Right, Bit, Same, Has, Plain of addresses: by walking.
-/
import Derived.Test.YtjkgmkkhjpcngaaAd0
import Derived.Test.YtjkgmkkhjpcngaaSame01
namespace Go.Proofs.Ytjkgmkkhjpcngaa
open Go.RowKit Go.Deep


theorem refright_any (A : Option Addr) (n cap : Nat) (b : Int) (r : Bool) (hr : rightN n b = r) (w : World) : Calls Try.prog 9 #[.agg #[.slice A n cap, .int .i64 b]] w (RetB r w) := by
  have HO := hide ((Only.refl [] w).alloc (.cells #[.slice A n cap, .int .i64 b] 29))
  by_cases k1 : n = 4 ∨ n = 16
  · by_cases k2 : 0 ≤ b
    · rcases k1 with rfl | rfl
      all_goals
        have HR := hide hr
        clear hr
        go_enter Try.func9, Try.ntmps9
        go_wp2
        go_ret
        refine retb ?_ HO.out
        rw [← HR.out]
        unfold rightN
        simp [k2]
    · have HR := hide (show false = r by rw [← hr]; unfold rightN; rw [decide_eq_false k2]; simp)
      clear hr
      rcases k1 with rfl | rfl
      all_goals
        go_enter Try.func9, Try.ntmps9
        go_wp2
        go_ret
        exact retb HR.out.symm HO.out
  · have HR := hide (show false = r by rw [← hr]; unfold rightN; rw [decide_eq_false (fun h => k1 (.inl h)), decide_eq_false (fun h => k1 (.inr h))]; rfl)
    have h1 : ((n : Int) == 4) = false := by rw [beq_eq_false_iff_ne]; intro h; exact k1 (.inl (by omega))
    have h2 : ((n : Int) == 16) = false := by rw [beq_eq_false_iff_ne]; intro h; exact k1 (.inr (by omega))
    clear hr k1
    go_enter Try.func9, Try.ntmps9
    go_wp2
    go_ret
    exact retb HR.out.symm HO.out

theorem bit_any (v : Value) (l : List UInt8) (N : List Nat) (i : Nat) (w : World) (hv : Rd w N v (ints .u8 (byts l))) (hi : i < 8 * l.length) (hl : l.length ≤ 1000) :
    Calls Try.prog 42 #[v, .int .i64 i] w fun e w' => e = .returned (.int .u8 ((bitN l i : Nat) : Int)) ∧ w = w' := by
  obtain ⟨A, cap, rfl, hc, hm⟩ := hv.formb
  have hk : i / 8 < l.length := by omega
  obtain ⟨g, o, rfl, _, hg, hcell⟩ := hv.at_.2.2.2 (i / 8) _ (ints_get (byts_get (getD_some hk)))
  have hd : ((i : Int).tdiv 8) = ((i / 8 : Nat) : Int) := by rw [Int.tdiv_eq_ediv_of_nonneg (by omega)]; omega
  have hmo : ((i : Int).tmod 8) = ((i % 8 : Nat) : Int) := by rw [Int.tmod_eq_emod_of_nonneg (by omega)]; omega
  have HB := hide (show bitN l i = (l.getD (i / 8) 0).toNat / 2 ^ (7 - i % 8) % 2 from rfl)
  have hc256 := UInt8.toNat_lt (l.getD (i / 8) 0)
  generalize (l.getD (i / 8) 0).toNat = c at *
  obtain ⟨q, hq⟩ : ∃ q, q = i / 8 := ⟨_, rfl⟩
  obtain ⟨r, hr⟩ : ∃ r, r = i % 8 := ⟨_, rfl⟩
  have hr8 : r < 8 := by omega
  rw [← hr] at HB hmo
  rw [← hq] at hd hk hcell
  clear hv hq hr hi
  go_enter Try.func42, Try.ntmps42
  go_wp2
  go_ret
  exact ⟨by rw [HB.out]; rfl, rfl⟩

theorem refsame_any (v u : Value) (l m : List UInt8) (b c : Int) (N M : List Nat) (w : World) (hv : Rd w N v (ints .u8 (byts l))) (hu : Rd w M u (ints .u8 (byts m))) :
    Calls Try.prog 43 #[.agg #[v, .int .i64 b], .agg #[u, .int .i64 c]] w (RetB (decide (b = c) && decide (l = m)) w) := by
  have HO := hide (((Only.refl [] w).alloc (.cells #[v, .int .i64 b] 29)).alloc (.cells #[u, .int .i64 c] 29))
  have HV := hide ((hv.less (N' := []) (fun x hx => by cases hx)).only HO.out (by simp))
  have HU := hide ((hu.less (N' := []) (fun x hx => by cases hx)).only HO.out (by simp))
  obtain ⟨A, cap, rfl, _, _⟩ := hv.formb
  obtain ⟨A', cap', rfl, _, _⟩ := hu.formb
  clear hv hu
  by_cases h : b = c
  · subst h
    have HR := hide (show (decide (b = b) && decide (l = m)) = decide (l = m) by simp)
    go_enter Try.func43, Try.ntmps43
    go_wp2_with (go_at_call 56; refine (same_bytes _ _ l m _ _ _ HV.out HU.out).mono ?_; rintro e w1 ⟨rfl, rfl⟩)
    go_ret
    exact retb HR.out HO.out
  · have h1 : (b == c) = false := by rw [beq_eq_false_iff_ne]; exact h
    have HR := hide (show (decide (b = c) && decide (l = m)) = false by rw [decide_eq_false h]; rfl)
    clear h
    go_enter Try.func43, Try.ntmps43
    go_wp2_with fail
    go_ret
    exact retb HR.out HO.out

theorem right_nat2 {l : List UInt8} {b : Int} (h : rightV l b = true) : ∃ n : Nat, b = n ∧ n ≤ 8 * l.length ∧ (l.length = 4 ∨ l.length = 16) := by
  have h1 := right_nat h
  simp only [rightV, Bool.and_eq_true, Bool.or_eq_true, decide_eq_true_eq] at h
  exact ⟨b.toNat, by omega, by omega, h.1.1⟩

set_option maxHeartbeats 3200000 in
theorem refhas_any (v u : Value) (l m : List UInt8) (b : Int) (N M : List Nat) (w : World) (hv : Rd w N v (ints .u8 (byts l))) (hu : Rd w M u (ints .u8 (byts m))) :
    Calls Try.prog 47 #[.agg #[v, .int .i64 b], u] w (RetB (hasV l b m) w) := by
  have HO := hide ((Only.refl [] w).alloc (.cells #[v, .int .i64 b] 29))
  have HV := hide ((hv.less (N' := []) (fun x hx => by cases hx)).only HO.out (by simp))
  have HU := hide ((hu.less (N' := []) (fun x hx => by cases hx)).only HO.out (by simp))
  have HBX := hide (Blk.new w 29 #[v, .int .i64 b])
  obtain ⟨A, cap, rfl, hcp, hcm⟩ := hv.formb
  obtain ⟨A', cap', rfl, hcp', hcm'⟩ := hu.formb
  clear hv hu
  obtain ⟨n, hn⟩ : ∃ n, n = l.length := ⟨_, rfl⟩
  obtain ⟨n', hn'⟩ : ∃ n', n' = m.length := ⟨_, rfl⟩
  rw [← hn] at HV HU HBX HO hcp ⊢
  rw [← hn'] at HU hcp' ⊢
  have HN := hide hn
  have HN' := hide hn'
  cases hr : rightV l b with
  | false =>
    have HR := hide (show hasV l b m = false by unfold hasV; rw [hr]; rfl)
    have HRR := hide (show rightN n b = false by rw [hn]; exact hr)
    clear hr hn hn'
    go_enter Try.func47, Try.ntmps47
    go_wp2_with (go_at_call 9; refine (refright_any _ _ _ _ false HRR.out _).mono ?_; rintro e w1 ⟨rfl, ho⟩; have HC := hide (HO.out.trans ho); clear ho)
    go_ret
    exact retb HR.out HC.out
  | true =>
    have HRR := hide (show rightN n b = true by rw [hn]; exact hr)
    by_cases hl : n' = n
    · obtain ⟨bn, rfl, hbn, h416⟩ := right_nat2 hr
      have hl1000 : n ≤ 16 := by omega
      have HNN := hide (hn'.symm.trans (hl.trans hn))
      subst hl
      rw [← hn] at hbn
      have HR := hide (show hasV l (bn : Int) m = decide (sameP l m bn) by unfold hasV; rw [hr, decide_eq_true HNN.out]; rfl)
      clear hr hn hn' h416
      go_enter Try.func47, Try.ntmps47
      go_wp2_with (go_at_call 9; refine (refright_any _ _ _ _ true HRR.out _).mono ?_; rintro e w1 ⟨rfl, ho⟩; have HC := hide (HO.out.trans ho); have HV := hide (HV.out.only ho (by simp)); have HU := hide (HU.out.only ho (by simp)); have HBX := hide (HBX.out.only ho (by simp)); have c0 := HBX.out.cell 0; have c1 := HBX.out.cell 1; simp at c0 c1; clear ho)
      clear c0 c1
      go_loopw [5] (fun i wr => ∃ k : Nat, k ≤ bn ∧ i = .int .i64 k ∧ Hid (∀ j, j < k → bitN l j = bitN m j) ∧ Hid (Only [] w1 wr)) (fun i _ => bn - (intOf i).toNat)
      case atStart => exact ⟨0, Nat.zero_le _, rfl, hide (fun j hj => by omega), hide (Only.refl [] w1)⟩
      case round =>
        obtain ⟨k, hk, rfl, HS, HX⟩ := hrel
        have HBX := hide (HBX.out.only HX.out (by simp))
        have c0 := HBX.out.cell 0
        have c1 := HBX.out.cell 1
        simp at c0 c1
        by_cases hlt : k < bn
        · have hltI : (k : Int) < bn := by omega
          have HK1 := hide (fun n => bit_any _ m _ k (wr.drewN n) ((HU.out.only HX.out (by simp)).only ((Only.refl [] wr).drewN n) (by simp)) (by rw [HNN.out, ← HN.out]; omega) (by rw [HNN.out, ← HN.out]; omega))
          have HK2 := hide (fun n => bit_any _ l _ k (wr.drewN n) ((HV.out.only HX.out (by simp)).only ((Only.refl [] wr).drewN n) (by simp)) (by rw [← HN.out]; omega) (by rw [← HN.out]; omega))
          obtain ⟨x, hx⟩ : ∃ x, x = bitN m k := ⟨_, rfl⟩
          obtain ⟨y, hy⟩ : ∃ y, y = bitN l k := ⟨_, rfl⟩
          rw [← hx] at HK1
          rw [← hy] at HK2
          have HXX := hide hx
          have HYY := hide hy
          clear hx hy
          by_cases he : x = y
          · subst he
            go_wp2_with fail
            go_quiet (first | (go_at_call_of 42 (Value.slice A' n' cap'); exact quiet_left (HK1.out _)) | (go_at_call_of 42 (Value.slice A n' cap); exact quiet_left (HK2.out _)))
            go_wp2_with fail
            go_roundw
            case rel => exact ⟨k + 1, by omega, by go_num, hide (fun j hj => by
              by_cases hjk : j = k
              · subst hjk; rw [← HXX.out, ← HYY.out]
              · exact HS.out j (by omega)), hide (HX.out.drewN _)⟩
            case measure => simp [intOf]; omega
          · have heI : ¬ (x : Int) = (y : Int) := by omega
            have HE := hide he
            clear he
            go_wp2_with fail
            go_quiet (first | (go_at_call_of 42 (Value.slice A' n' cap'); exact quiet_left (HK1.out _)) | (go_at_call_of 42 (Value.slice A n' cap); exact quiet_left (HK2.out _)))
            go_wp2_with fail
            go_ret
            refine retb (HR.out.trans (decide_eq_false fun h => ?_)) (HC.out.trans (HX.out.drewN _))
            rw [same_bits (by rw [← HN.out]; exact hbn)] at h
            exact HE.out (by rw [HXX.out, HYY.out]; exact (h k hlt).symm)
        · obtain rfl : k = bn := by omega
          have hge : ¬ (k : Int) < k := by omega
          go_wp2_with fail
          go_ret
          refine retb (HR.out.trans (decide_eq_true ?_)) (HC.out.trans HX.out)
          rw [same_bits (by rw [← HN.out]; exact hbn)]
          exact HS.out
    · have hlI : ¬ (n' : Int) = n := by omega
      have HR := hide (show hasV l b m = false by unfold hasV; rw [decide_eq_false (show ¬ m.length = l.length by rw [← hn, ← hn']; exact hl)]; simp)
      clear hr hn hn' hl
      go_enter Try.func47, Try.ntmps47
      go_wp2_with (go_at_call 9; refine (refright_any _ _ _ _ true HRR.out _).mono ?_; rintro e w1 ⟨rfl, ho⟩; have HC := hide (HO.out.trans ho); have HBX := hide (HBX.out.only ho (by simp)); have c0 := HBX.out.cell 0; have c1 := HBX.out.cell 1; simp at c0 c1; clear ho)
      go_ret
      exact retb HR.out HC.out
end Go.Proofs.Ytjkgmkkhjpcngaa

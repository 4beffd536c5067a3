/-
  trie.Put refused, trie.Owner: by walking.
-/
import Derived.Test.YtjkgmkkhjpcngaaTr4
namespace Go.Proofs.Ytjkgmkkhjpcngaa
open Go.RowKit Go.Deep

theorem put_nil (A : Option Addr) (n cap : Nat) (b x : Int) (w : World) : Calls Try.prog 10 #[.pointer none, .agg #[.slice A n cap, .int .i64 b], .int .i64 x] w fun e w' => e = .returned (.int .i64 1) ∧ Only [] w w' := by
  go_enter Try.func10, Try.ntmps10
  go_wp2
  go_ret
  exact ⟨rfl, (Only.refl [] w).alloc _⟩
theorem put_form (T : Nat) (A : Option Addr) (n cap : Nat) (b x : Int) (w : World) (hr : rightN n b = false) : Calls Try.prog 10 #[.pointer (some ⟨T, 0, none⟩), .agg #[.slice A n cap, .int .i64 b], .int .i64 x] w fun e w' => e = .returned (.int .i64 3) ∧ Only [] w w' := by
  have HO := hide ((Only.refl [] w).alloc (.cells #[.slice A n cap, .int .i64 b] 29))
  have HRR := hide hr
  clear hr
  go_enter Try.func10, Try.ntmps10
  go_wp2_with (go_at_call 38; refine (right_any _ _ _ _ false HRR.out _).mono ?_; rintro e w1 ⟨rfl, ho⟩; have HC := hide (HO.out.trans ho); clear ho)
  go_ret
  exact ⟨rfl, HC.out⟩
theorem put_arg (T : Nat) (A : Option Addr) (n cap : Nat) (b x : Int) (w : World) (hr : rightN n b = true) (hx : x < 0) : Calls Try.prog 10 #[.pointer (some ⟨T, 0, none⟩), .agg #[.slice A n cap, .int .i64 b], .int .i64 x] w fun e w' => e = .returned (.int .i64 2) ∧ Only [] w w' := by
  have HO := hide ((Only.refl [] w).alloc (.cells #[.slice A n cap, .int .i64 b] 29))
  have HRR := hide hr
  clear hr
  go_enter Try.func10, Try.ntmps10
  go_wp2_with (go_at_call 38; refine (right_any _ _ _ _ true HRR.out _).mono ?_; rintro e w1 ⟨rfl, ho⟩; have HC := hide (HO.out.trans ho); clear ho)
  go_ret
  exact ⟨rfl, HC.out⟩

theorem owner_nil (A : Option Addr) (n cap : Nat) (w : World) : Calls Try.prog 17 #[.pointer none, .slice A n cap] w fun e w' => e = .returned (.tuple #[.int .i64 0, .bool false]) ∧ w = w' := by
  go_enter Try.func17, Try.ntmps17
  go_wp2
  go_ret2
  exact ⟨rfl, rfl⟩
theorem owner_off (T : Nat) (A : Option Addr) (n cap : Nat) (w : World) (h4 : n ≠ 4) (h16 : n ≠ 16) : Calls Try.prog 17 #[.pointer (some ⟨T, 0, none⟩), .slice A n cap] w fun e w' => e = .returned (.tuple #[.int .i64 0, .bool false]) ∧ w = w' := by
  have e1 : ((n : Int) != 4) = true := by rw [bne_iff_ne]; omega
  have e2 : ((n : Int) != 16) = true := by rw [bne_iff_ne]; omega
  clear h4 h16
  go_enter Try.func17, Try.ntmps17
  go_wp2
  go_ret2
  exact ⟨rfl, rfl⟩

def ownerV (th : Bool → List Bool → Bool) (ow : Bool → List Bool → Int) (l : List UInt8) : Int × Bool := bestV (th (!(decide (l.length = 4)))) (ow (!(decide (l.length = 4)))) l (8 * l.length + 1)
def OwnPost (r : Int × Bool) (w : World) (e : Ending) (w' : World) : Prop := e = .returned (.tuple #[.int .i64 r.1, .bool r.2]) ∧ Only [] w w'
theorem ownpost {r s : Int × Bool} {w w' : World} (h : r = s) (ho : Only [] w w') : OwnPost r w (.returned (.tuple #[.int .i64 s.1, .bool s.2])) w' := by subst h; exact ⟨rfl, ho⟩

set_option maxRecDepth 100000 in
set_option maxHeartbeats 6400000 in
theorem owner_any (T : Nat) (v : Value) (l : List UInt8) (N bl : List Nat) (ad : Ads) (th : Bool → List Bool → Bool) (ow : Bool → List Bool → Int) (w : World) (hv : Rd w N v (ints .u8 (byts l))) (h416 : l.length = 4 ∨ l.length = 16)
    (hT : TrIs w T bl ad th ow) : Calls Try.prog 17 #[.pointer (some ⟨T, 0, none⟩), v] w (OwnPost (ownerV th ow l) w) := by
  have HV := hide (hv.less (N' := []) (fun x hx => by cases hx))
  have HTR := hide hT
  obtain ⟨A, cap, rfl, hcp, hcm⟩ := hv.formb
  obtain ⟨s, hs⟩ : ∃ s, s = !(decide (l.length = 4)) := ⟨_, rfl⟩
  have HOV := hide (show ownerV th ow l = bestV (th s) (ow s) l (8 * l.length + 1) by unfold ownerV; rw [← hs])
  obtain ⟨n, hn⟩ : ∃ n, n = l.length := ⟨_, rfl⟩
  rw [← hn] at HV hcp h416 HOV hs ⊢
  have HN := hide hn
  have HS := hide hs
  have hl16 : n ≤ 16 := by omega
  clear hv hn hs hT
  rcases h416 with h4 | h4
  all_goals
    have HNV := hide h4
    first
      | (have e1 : ((n : Int) != 4) = false := by rw [bne_eq_false_iff_eq]; omega)
      | (have e1 : ((n : Int) != 4) = true := by rw [bne_iff_ne]; omega
         have e2 : ((n : Int) != 16) = false := by rw [bne_eq_false_iff_eq]; omega)
    clear h4
    go_enter Try.func17, Try.ntmps17
    go_wp2_with (go_at_call 39; refine (root_any T n s HS.out _).mono ?_; rintro e w2 ⟨rfl, rfl⟩)
    go_loopw [6, 7, 8, 9] (fun ow' fo p i wr => ∃ k : Nat, k ≤ 8 * n ∧ i = .int .i64 k ∧ p = kidV (ad s (pathR l k)) ∧ ow' = .int .i64 (bestV (th s) (ow s) l k).1 ∧ fo = .bool (bestV (th s) (ow s) l k).2 ∧ Hid (Only [] w wr)) (fun _ _ _ i _ => 8 * n - (intOf i).toNat)
    case atStart => exact ⟨0, Nat.zero_le _, rfl, by rw [show pathR l 0 = [] from rfl, HTR.out.ads.root s]; rfl, rfl, rfl, hide (Only.refl [] w)⟩
    case round =>
      obtain ⟨k, hk, rfl, rfl, rfl, rfl, HX⟩ := hrel
      have HT2 := hide (HTR.out.only HX.out (by simp))
      cases hc : ad s (pathR l k) with
      | none =>
        have HE := hide (show bestV (th s) (ow s) l (8 * n + 1) = bestV (th s) (ow s) l k by
          rw [show 8 * n + 1 = k + (8 * n + 1 - k) by omega]
          refine best_stop (fun j hj => ?_) _
          have hz := path_none HTR.out.ads hc (j - k)
          rw [show k + (j - k) = j by omega] at hz
          exact (HTR.out.bare s _ hz).1)
        simp only [kidV, Option.map_none]
        clear hc
        go_wp2_with fail
        go_ret2
        exact ownpost (HOV.out.trans HE.out) HX.out
      | some p =>
        obtain ⟨g, o⟩ := p
        simp only [kidV, Option.map_some]
        obtain ⟨d0, d1, hkid⟩ := HT2.out.at_ hc
        have hbs : bestV (th s) (ow s) l (k + 1) = if th s (pathR l k) then (ow s (pathR l k), true) else bestV (th s) (ow s) l k := rfl
        cases hth : th s (pathR l k) with
        | false =>
          rw [hth] at d1
          have HB := hide (show bestV (th s) (ow s) l (k + 1) = bestV (th s) (ow s) l k by rw [hbs, hth]; rfl)
          clear hth hbs
          by_cases hlt : k < 8 * n
          · have e8 : ((k : Int) == 8 * (n : Int)) = false := by rw [beq_eq_false_iff_ne]; omega
            obtain ⟨bb, hbb, hpath⟩ := bit_bool l k
            obtain ⟨q, hq⟩ : ∃ q, q = bb.toNat := ⟨_, rfl⟩
            have hq2 : q < 2 := by rw [hq]; cases bb <;> decide
            have HK := hide (fun n0 => tbit_any _ l [] k (wr.drewN n0) ((HV.out.only HX.out (by simp)).only ((Only.refl [] wr).drewN n0) (by simp)) (by rw [← HN.out]; omega) (by rw [← HN.out]; omega))
            rw [hbb, ← hq] at HK
            have hkid := hkid bb
            rw [← hq, ← Nat.add_assoc] at hkid
            have HP := hide hpath
            clear hq hpath hbb hc
            go_wp2_with fail
            go_quiet (exact quiet_left (HK.out _))
            go_wp2_with fail
            go_roundw
            case rel => exact ⟨k + 1, by omega, by go_num, (by rw [HP.out]; rfl), by rw [HB.out], by rw [HB.out], hide (HX.out.drewN _)⟩
            case measure => simp [intOf]; omega
          · obtain rfl : k = 8 * n := by omega
            have e8 : (((8 * n : Nat) : Int) == 8 * (n : Int)) = true := by rw [beq_iff_eq]; omega
            have HE := hide (HOV.out.trans HB.out)
            clear hkid hc
            go_wp2_with fail
            go_ret2
            exact ownpost HE.out HX.out
        | true =>
          rw [hth] at d1
          have HB := hide (show bestV (th s) (ow s) l (k + 1) = (ow s (pathR l k), true) by rw [hbs, hth]; rfl)
          clear hth hbs
          by_cases hlt : k < 8 * n
          · have e8 : ((k : Int) == 8 * (n : Int)) = false := by rw [beq_eq_false_iff_ne]; omega
            obtain ⟨bb, hbb, hpath⟩ := bit_bool l k
            obtain ⟨q, hq⟩ : ∃ q, q = bb.toNat := ⟨_, rfl⟩
            have hq2 : q < 2 := by rw [hq]; cases bb <;> decide
            have HK := hide (fun n0 => tbit_any _ l [] k (wr.drewN n0) ((HV.out.only HX.out (by simp)).only ((Only.refl [] wr).drewN n0) (by simp)) (by rw [← HN.out]; omega) (by rw [← HN.out]; omega))
            rw [hbb, ← hq] at HK
            have hkid := hkid bb
            rw [← hq, ← Nat.add_assoc] at hkid
            have HP := hide hpath
            clear hq hpath hbb hc
            go_wp2_with fail
            go_quiet (exact quiet_left (HK.out _))
            go_wp2_with fail
            go_roundw
            case rel => exact ⟨k + 1, by omega, by go_num, (by rw [HP.out]; rfl), by rw [HB.out], by rw [HB.out], hide (HX.out.drewN _)⟩
            case measure => simp [intOf]; omega
          · obtain rfl : k = 8 * n := by omega
            have e8 : (((8 * n : Nat) : Int) == 8 * (n : Int)) = true := by rw [beq_iff_eq]; omega
            have HE := hide (HOV.out.trans HB.out)
            clear hkid hc
            go_wp2_with fail
            go_ret2
            exact ownpost HE.out HX.out
end Go.Proofs.Ytjkgmkkhjpcngaa

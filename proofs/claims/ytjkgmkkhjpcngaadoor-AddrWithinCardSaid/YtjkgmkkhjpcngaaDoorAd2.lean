/-
  addr.same and addr.plain: by walking.
-/
import Derived.Test.YtjkgmkkhjpcngaaDoorAd1
namespace Go.Proofs.YtjkgmkkhjpcngaaDoor
open Go.RowKit Go.Deep

theorem xor_and0 (c d M : Nat) : (c ^^^ d) &&& M = 0 ↔ c &&& M = d &&& M := by
  rw [Nat.and_xor_distrib_right]
  constructor
  · intro h
    have := congrArg (fun x => x ^^^ (d &&& M)) h
    simpa [Nat.xor_assoc] using this
  · intro h; rw [h, Nat.xor_self]
theorem andnot0 (c k b : Nat) (hc : c < 256) : c &&& (255 - maskN k b) = 0 ↔ c &&& maskN k b = c := by
  have h : ∀ (r : Fin 9) (c : Fin 256), c.1 &&& (255 - (256 - 2 ^ (8 - r.1))) = 0 ↔ c.1 &&& (256 - 2 ^ (8 - r.1)) = c.1 := by decide +kernel
  exact h ⟨min 8 (b - 8 * k), by omega⟩ ⟨c, hc⟩
theorem mask_lt (k b : Nat) : maskN k b < 256 := by
  unfold maskN
  have : 0 < 2 ^ (8 - min 8 (b - 8 * k)) := Nat.pow_pos (by omega)
  omega
def plainP (l : List UInt8) (b : Nat) : Prop := ∀ k, k < l.length → (l.getD k 0).toNat &&& maskN k b = (l.getD k 0).toNat
theorem plain_eq {l : List UInt8} {b : Nat} : plainP l b ↔ plainV l b = l := by
  unfold plainP
  constructor
  · intro h
    apply List.ext_getElem (plain_length l b)
    intro i h1 h2
    have e := plain_get (b := b) h2
    rw [h i h2, UInt8.ofNat_toNat] at e
    simpa [List.getD, h1, h2] using e
  · intro h k hk
    have e := plain_nat (b := b) hk
    rw [h] at e
    exact e.symm
instance (l : List UInt8) (b : Nat) : Decidable (plainP l b) := by unfold plainP; infer_instance

set_option maxHeartbeats 3200000 in
theorem same_any (v u : Value) (l m : List UInt8) (N M : List Nat) (b : Nat) (w : World) (hx : Rd w N v (ints .u8 (byts l))) (hy : Rd w M u (ints .u8 (byts m))) (hl : m.length = l.length) (hl2 : l.length ≤ 1000) (hb : b ≤ 1000) :
    Calls Tryd.prog 44 #[v, u, .int .i64 b] w (RetB (decide (sameP l m b)) w) := by
  obtain ⟨A, cap, rfl, hc, hm⟩ := hx.formb
  obtain ⟨A', cap', rfl, hc', hm'⟩ := hy.formb
  rw [hl] at hy hc' ⊢
  obtain ⟨n, hn⟩ : ∃ n, n = l.length := ⟨_, rfl⟩
  have HX := hide hx
  have HY := hide hy
  rw [← hn] at hc hc' hl2 HX HY ⊢
  have HN := hide hn
  have HM := hide (hl.trans hn.symm)
  clear hx hy hl hn
  go_enter Tryd.func44, Tryd.ntmps44
  go_wp2_with fail
  go_loopw [11] (fun i wr => ∃ k : Nat, k ≤ n ∧ i = .int .i64 k ∧ Hid (∀ j, j < k → (l.getD j 0).toNat &&& maskN j b = (m.getD j 0).toNat &&& maskN j b) ∧ Hid (Only [] w wr)) (fun i _ => n - (intOf i).toNat)
  case atStart => exact ⟨0, Nat.zero_le _, rfl, hide (fun j hj => by omega), hide (Only.refl [] w)⟩
  case round =>
    obtain ⟨k, hk, rfl, HS, HO⟩ := hrel
    by_cases hlt : k < n
    · have hltI : (k : Int) < n := by omega
      have hg1 := getD_some (l := l) (k := k) (by rw [← HN.out]; exact hlt)
      have hg2 := getD_some (l := m) (k := k) (by rw [HM.out]; exact hlt)
      obtain ⟨g, o, rfl, _, hg, hcell⟩ := (HX.out.only HO.out (by simp)).at_.2.2.2 k _ (ints_get (byts_get hg1))
      obtain ⟨g', o', rfl, _, hg', hcell'⟩ := (HY.out.only HO.out (by simp)).at_.2.2.2 k _ (ints_get (byts_get hg2))
      have hc1 := UInt8.toNat_lt (l.getD k 0)
      have hc2 := UInt8.toNat_lt (m.getD k 0)
      obtain ⟨c, hcc⟩ : ∃ c, c = (l.getD k 0).toNat := ⟨_, rfl⟩
      obtain ⟨d, hdd⟩ : ∃ d, d = (m.getD k 0).toNat := ⟨_, rfl⟩
      obtain ⟨M, hMM⟩ : ∃ M, M = maskN k b := ⟨_, rfl⟩
      rw [← hcc] at hcell hc1
      rw [← hdd] at hcell' hc2
      have hM := mask_lt k b
      rw [← hMM] at hM
      have hxor := u8_xor_nat c d hc1 hc2
      have hand := u8_and_nat (c ^^^ d) M (Nat.xor_lt_two_pow (n := 8) hc1 hc2) hM
      have HK := hide (fun W => hMM ▸ mask_any k b W (by omega) hb)
      have HC := hide hcc
      have HD := hide hdd
      have HMM := hide hMM
      by_cases he : c &&& M = d &&& M
      · have h0 := (xor_and0 c d M).2 he
        have HE := hide he
        rw [h0] at hand
        clear he h0 hcc hdd hMM hM hg1 hg2 hc1 hc2
        go_wp2_with fail
        go_quiet (exact quiet_left (HK.out _))
        go_wp2_with fail
        go_roundw
        case rel => exact ⟨k + 1, by omega, by go_num, hide (fun j hj => by
          by_cases hjk : j = k
          · subst hjk; rw [← HC.out, ← HD.out, ← HMM.out]; exact HE.out
          · exact HS.out j (by omega)), (by first | exact HO | exact hide HO.out.drew | exact hide (HO.out.drewN _))⟩
        case measure => simp [intOf]; omega
      · have HE := hide he
        have hne : ((c ^^^ d) &&& M) ≠ 0 := fun h => he ((xor_and0 c d M).1 h)
        have hneI : ¬ (((c ^^^ d) &&& M : Nat) : Int) = 0 := by omega
        generalize (c ^^^ d) &&& M = z at *
        clear he hne hcc hdd hMM hM hg1 hg2 hc1 hc2
        go_wp2_with fail
        go_quiet (exact quiet_left (HK.out _))
        go_wp2_with fail
        go_ret
        refine retb (decide_eq_false fun h => ?_) (by first | exact HO.out | exact HO.out.drew | exact (HO.out.drewN _))
        have := h k (by rw [← HN.out]; exact hlt)
        rw [← HC.out, ← HD.out, ← HMM.out] at this
        exact HE.out this
    · obtain rfl : k = n := by omega
      have hge : ¬ (k : Int) < k := by omega
      go_wp2_with fail
      go_ret
      exact retb (decide_eq_true fun j hj => HS.out j (by rw [HN.out]; exact hj)) HO.out
end Go.Proofs.YtjkgmkkhjpcngaaDoor

/-
  The law TermMakes, by walking. Condition: the library's table of powers of ten reads as it was laid.
-/
import Derived.Test.YtfmfnfmhknlpbaaDoorLaQ
namespace Go.Proofs.YtfmfnfmhknlpbaaDoor
open Go.RowKit Go.Deep

theorem make_size {k : Int} {n : Nat} {b : List UInt8} {l : List ByteArray} (hn : n < 18446744073709551616) (h : makeV k n b l ≠ ByteArray.empty) : (makeV k n b l).size ≤ 65536 := parse_size (make_read hn h)
theorem empty_yes : ByteArray.empty.toList.isEmpty = true := by rw [ByteArray.toList_eq]; rfl
theorem empty_no {T : ByteArray} (h : T ≠ ByteArray.empty) : T.toList.isEmpty = false := by
  rw [ByteArray.toList_eq]
  cases h2 : T.data.toList with
  | nil => exact absurd (data_inj (h2.trans rfl)) h
  | cons a r => rfl

set_option maxRecDepth 100000 in
set_option maxHeartbeats 12800000 in
theorem termMakes_walk (k : Int) (hk : (Lit.int .i64 k).wf = true) (n : Nat) (hn : n < 18446744073709551616) (bv : Value) (b : List UInt8) (lv : Value) (l : List ByteArray) (hsz : ∀ p ∈ l, p.size ≤ maxLen) (w : World)
    (hb : Rd w [] bv (ints .u8 (byts b))) (hv : Rd w [] lv (strs l)) (htab : Tab w) :
    Calls Tryd.prog 4 #[.int .i64 k, .int .u64 n, bv, lv] w fun e w' => e = .returned (.bool true) ∧ Only [] w w' := by
  obtain ⟨A, cap, rfl, hc1, hc2⟩ := hb.formb
  obtain ⟨A', cap', rfl, hc1', hc2'⟩ := hv.form
  unfold maxLen at hc2 hc2'
  rw [strs_length] at hv hc1' ⊢
  have HT := hide htab
  have HV := hide hv
  by_cases hb1 : 1000 < b.length
  · have hbI : (1000 : Int) < b.length := by omega
    clear hsz hb hv htab hb1 hk hn
    go_enter Tryd.func4, Tryd.ntmps4
    go_wp2_with (first
      | (go_at_call 10; refine (awake02 _ HT.out).mono ?_; rintro e w1 ⟨rfl, ho⟩; have HC := hide ho; clear ho))
    go_ret
    exact ⟨rfl, HC.out⟩
  have hbI : ¬ (1000 : Int) < b.length := by omega
  by_cases hl1 : 100 < l.length
  · have hlI : (100 : Int) < l.length := by omega
    clear hsz hb hv htab hb1 hl1 hk hn
    go_enter Tryd.func4, Tryd.ntmps4
    go_wp2_with (first
      | (go_at_call 10; refine (awake02 _ HT.out).mono ?_; rintro e w1 ⟨rfl, ho⟩; have HC := hide ho; clear ho))
    go_ret
    exact ⟨rfl, HC.out⟩
  have hlI : ¬ (100 : Int) < l.length := by omega
  have HMK := hide (fun W (ho : Only [] w W) => Make_any k hk n hn _ _ b l hsz W (hb.only ho (by simp)) (hv.only ho (by simp)) (htab.only ho (by simp)))
  have HMR := hide (fun W (ho : Only [] w W) => MakeR_any k n hn _ _ b (by omega) l (by omega) hsz W (hb.only ho (by simp)) (hv.only ho (by simp)))

  unfold MakePost at HMK HMR
  have HRD := hide (fun h => make_read (k := k) (n := n) (b := b) (l := l) hn h)
  have HSZ := hide (fun h => make_size (k := k) (n := n) (b := b) (l := l) hn h)
  generalize makeV k n b l = T at *
  have htt : (T.toList == T.toList) = true := by simp
  clear hsz hb hv htab hb1 hl1 hk hn
  by_cases hT : T = ByteArray.empty
  · have hTe : T.toList.isEmpty = true := by rw [hT]; exact empty_yes
    clear hT
    go_enter Tryd.func4, Tryd.ntmps4
    go_wp2_with (first
      | (go_at_call 10; refine (awake02 _ HT.out).mono ?_; rintro e w1 ⟨rfl, ho⟩; have HC := hide ho; clear ho)
      | (go_at_call 17; refine (Size_some _ l _ (HV.out.only HC.out (by simp))).mono ?_; rintro e w2 ⟨x, rfl, ho⟩; have HC := hide (HC.out.trans ho); clear ho)
      | (go_at_call 11; refine (HMK.out _ HC.out).mono ?_; rintro e w3 ⟨rfl, ho⟩; have HC := hide (HC.out.trans ho); clear ho)
      | (go_at_call 18; refine (HMR.out _ HC.out).mono ?_; rintro e w4 ⟨rfl, ho⟩; have HC := hide (HC.out.trans ho); clear ho))
    all_goals
      go_ret
      exact ⟨rfl, HC.out⟩
  have hTe : T.toList.isEmpty = false := empty_no hT
  by_cases h6 : k = 6
  · have h6b : (k == 6) = true := by rw [beq_iff_eq]; exact h6
    clear hT h6
    go_enter Tryd.func4, Tryd.ntmps4
    go_wp2_with (first
      | (go_at_call 10; refine (awake02 _ HT.out).mono ?_; rintro e w1 ⟨rfl, ho⟩; have HC := hide ho; clear ho)
      | (go_at_call 17; refine (Size_some _ l _ (HV.out.only HC.out (by simp))).mono ?_; rintro e w2 ⟨x, rfl, ho⟩; have HC := hide (HC.out.trans ho); clear ho)
      | (go_at_call 11; refine (HMK.out _ HC.out).mono ?_; rintro e w3 ⟨rfl, ho⟩; have HC := hide (HC.out.trans ho); clear ho)
      | (go_at_call 18; refine (HMR.out _ HC.out).mono ?_; rintro e w4 ⟨rfl, ho⟩; have HC := hide (HC.out.trans ho); clear ho))
    all_goals
      go_ret
      exact ⟨rfl, HC.out⟩
  have h6b : (k == 6) = false := by rw [beq_eq_false_iff_ne]; exact h6
  have hpt := HRD.out hT
  rw [sort_not6 h6] at hpt
  have hts : T.size ≤ maxLen := by have := HSZ.out hT; unfold maxLen; omega
  have HKD := hide (fun W => Kind_any W T hts)
  unfold KindPost at HKD
  rw [show kindT T = k by unfold kindT; rw [hpt]] at HKD
  have HPA := hide (fun W => (Parts_any W T hts).mono fun e w' h => show ∃ v, e = .returned v ∧ Only [] W w' ∧ Rd w' [] v (strs (parT T)) by obtain ⟨v, h1, h2, h3⟩ := h; exact ⟨v, h1, h2, h3 [] (by simp)⟩)
  rw [show parT T = l by unfold parT; rw [hpt]] at HPA
  clear hT h6 hpt hts HRD HSZ
  go_enter Tryd.func4, Tryd.ntmps4
  go_wp2_with (first
    | (go_at_call 10; refine (awake02 _ HT.out).mono ?_; rintro e w1 ⟨rfl, ho⟩; have HC := hide ho; clear ho)
    | (go_at_call 17; refine (Size_some _ l _ (HV.out.only HC.out (by simp))).mono ?_; rintro e w2 ⟨x, rfl, ho⟩; have HC := hide (HC.out.trans ho); clear ho)
    | (go_at_call 11; refine (HMK.out _ HC.out).mono ?_; rintro e w3 ⟨rfl, ho⟩; have HC := hide (HC.out.trans ho); clear ho)
    | (go_at_call 18; refine (HMR.out _ HC.out).mono ?_; rintro e w4 ⟨rfl, ho⟩; have HC := hide (HC.out.trans ho); clear ho)
    | (go_at_call 16; refine (HKD.out _).mono ?_; rintro e w5 ⟨rfl, ho⟩; have HC := hide (HC.out.trans ho); clear ho)
    | (go_at_call 20; refine (HPA.out _).mono ?_; rintro e w6 ⟨v, rfl, ho, hp⟩; have HR := hide hp; have HC := hide (HC.out.trans ho); clear ho hp)
    | (go_at_call 19; refine (same_refl _ _ l _ HR.out (HV.out.only HC.out (by simp))).mono ?_; rintro e w7 ⟨rfl, ho⟩; have HC := hide (HC.out.trans ho); clear ho))
  all_goals
    go_ret
    exact ⟨rfl, HC.out⟩
end Go.Proofs.YtfmfnfmhknlpbaaDoor

/-
  Walks and plain words for PairLimits (texts Mk, Tw, Lm, Ws0, Tz, Pr1, Win, Win2, Win3, Ref07, Win4). No condition beyond those that each theorem states.
-/
import Derived.Test.YtfipdjlalfpbnaaDoorChecked
import Derived.BigQuiet
import Derived.RegionTactic
import Derived.BigRegion
import Derived.Outline
import Derived.Deep.RegionHeld3
import Derived.Deep.DeepFit
import Derived.Deep.DeepMust
import Derived.WalkLawsBesides
import Derived.Laws.BitsAllLaws
import Derived.Laws.BitsLemmas
import Derived.ScopeJumps
import Derived.Deep.OwnRows
import Derived.Test.YtfipdjlalfpbnaaDoorP08
namespace Go.Proofs.YtfipdjlalfpbnaaDoor
section
open Go.RowKit Go.Deep

def MakePost (r : ByteArray) (w : World) (e : Ending) (w' : World) : Prop := e = .returned (.string r) ∧ Only [] w w'
theorem makepost {r s : ByteArray} {w w' : World} (h : r = s) (ho : Only [] w w') : MakePost r w (.returned (.string s)) w' := by subst h; exact ⟨rfl, ho⟩
theorem fits_num {k : Int} (h5 : 5 ≤ k) {l : List ByteArray} (hf : fitsV k l.length = true) (hn : numberedV k = true) : l ≠ [] := by
  rintro rfl
  have h : k = 8 ∨ k = 10 := by
    simp only [numberedV, Bool.or_eq_true, beq_iff_eq] at hn
    omega
  rcases h with rfl | rfl <;> simp [fitsV, leastV, mostV] at hf
theorem fits_six {l : List ByteArray} (hf : fitsV 6 l.length = true) : ∃ p q, l = [p, q] := by
  have hl : l.length = 2 := by
    simp only [fitsV, leastV, mostV] at hf
    simp at hf
    omega
  match l, hl with
  | [a, b], _ => exact ⟨a, b, rfl⟩

/-- join, at what Make gives it. -/
theorem join_all (k : Int) (hr : 1 ≤ k ∧ k ≤ 11) (n : Nat) (hn : n < 18446744073709551616) (bv lv : Value) (b : List UInt8) (l : List ByteArray) (hf : fitsV k l.length = true) (hs : sumL l ≤ 65536) (h4 : k = 4 → b.length ≤ 65536) (w : World)
    (hb : Rd w [] bv (ints .u8 (byts b))) (hv : Rd w [] lv (strs l)) (htab : Tab w) :
    Calls Tryd.prog 60 #[.int .u8 ((letU k).toNat : Nat), .int .i64 k, .int .u64 n, bv, lv] w (StrPost (txtL k n b (sortV k l)) w) := by
  have hj := join_le l
  by_cases hk : k ≤ 4
  · rw [sort_not6 (by omega)]
    exact join_leaf k hr.1 hk n hn bv lv b l w (fun h => ⟨by have := h4 h; omega, hb⟩) htab
  · by_cases h6 : k = 6
    · subst h6
      obtain ⟨p, q, rfl⟩ := fits_six hf
      simp only [sumL] at hs
      exact join_dh n bv lv b p q (by omega) w hv
    · rw [sort_not6 h6]
      exact join_gen k (by omega) hr.2 h6 n hn bv lv b l (fits_num (by omega) hf) (by omega) w hv htab

set_option maxRecDepth 100000 in
set_option maxHeartbeats 12800000 in
theorem Make_any (k : Int) (hk : (Lit.int .i64 k).wf = true) (n : Nat) (hn : n < 18446744073709551616) (bv lv : Value) (b : List UInt8) (l : List ByteArray) (hsz : ∀ p ∈ l, p.size ≤ maxLen) (w : World)
    (hb : Rd w [] bv (ints .u8 (byts b))) (hv : Rd w [] lv (strs l)) (htab : Tab w) :
    Calls Tryd.prog 31 #[.int .i64 k, .int .u64 n, bv, lv] w (MakePost (makeV k n b l) w) := by
  obtain ⟨A, cap, rfl, hc1, hc2⟩ := hv.form
  obtain ⟨A', cap', rfl, hc1', hc2'⟩ := hb.formb
  unfold maxLen at hc2 hc2' hsz
  rw [strs_length] at hv hc1 ⊢
  by_cases hr : 1 ≤ k ∧ k ≤ 11
  case neg =>
    have HM := hide (make_kind (n := n) (b := b) (l := l) hr)
    have e0 : (((letU k).toNat : Nat) : Int) = 0 := by rw [let_zero hr]; rfl
    have HLT := hide (show ∀ W, Calls Tryd.prog 56 #[.int .i64 k] W fun e w' => e = .returned (.int .u8 0) ∧ Only [] W w' from fun W => by have h := letter_of k hk W; rw [e0] at h; exact h)
    clear hb hv htab hk hr e0 hsz hn
    go_enter Tryd.func31, Tryd.ntmps31
    go_wp2_with (first | (go_at_call 56; refine (HLT.out _).mono ?_; rintro e w1 ⟨rfl, ho⟩; have HC := hide ho; clear ho))
    go_ret
    exact makepost HM.out HC.out
  have HR := hide hr
  have hlp := let_pos hr
  have HLT := hide (letter_of k hk)
  have HJ := hide (fun hf hs h4 W (ho : Only [] w W) => join_all k hr n hn _ _ b l hf hs h4 W (hb.only ho (by simp)) (hv.only ho (by simp)) (htab.only ho (by simp)))
  unfold StrPost at HJ
  obtain ⟨c, hcd⟩ : ∃ c : Int, c = ((letU k).toNat : Nat) := ⟨_, rfl⟩
  have hc0 : (c == 0) = false := by rw [beq_eq_false_iff_ne, hcd]; exact hlp
  rw [← hcd] at HLT HJ
  obtain ⟨m, hm⟩ : ∃ m, m = l.length := ⟨_, rfl⟩
  have HM := hide hm
  rw [← hm] at hv hc1 HJ ⊢
  have HV := hide hv
  have HSZ := hide hsz
  have hkw := hk
  clear hb hv htab hr hk hsz hn hlp hcd hm
  by_cases ha : numberedV k = true ∧ allowedV k n = false
  · obtain ⟨hnb, hal⟩ := ha
    have HMK := hide (make_allow (b := b) (l := l) hnb hal)
    have HNB := hide hnb
    have HAL := hide hal
    clear hnb hal
    go_enter Tryd.func31, Tryd.ntmps31
    go_wp2_with (first | (go_at_call 56; refine (HLT.out _).mono ?_; rintro e w1 ⟨rfl, ho⟩; have HC := hide ho; clear ho) | (go_at_call 57; refine (numbered_any _ _).mono ?_; rintro e w2 ⟨rfl, rfl⟩; rw [HNB.out]) | (go_at_call 58; refine (allowed_any _ _ _).mono ?_; rintro e w2 ⟨rfl, rfl⟩; rw [HAL.out]))
    go_ret
    exact makepost HMK.out HC.out
  have HALW := hide (show numberedV k = true → allowedV k n = true by
    intro h
    cases h2 : allowedV k n with
    | true => rfl
    | false => exact absurd ⟨h, h2⟩ ha)
  clear ha
  cases hft : fitsV k m with
  | false =>
    have HMK := hide (make_fits (n := n) (b := b) (l := l) (k := k) (by rw [← HM.out]; exact hft))
    have HFT := hide hft
    cases hnb : numberedV k with
    | true =>
      have HNB := hide hnb
      have HAL := hide (HALW.out hnb)
      clear hnb hft
      go_enter Tryd.func31, Tryd.ntmps31
      go_wp2_with (first | (go_at_call 56; refine (HLT.out _).mono ?_; rintro e w1 ⟨rfl, ho⟩; have HC := hide ho; clear ho) | (go_at_call 57; refine (numbered_any _ _).mono ?_; rintro e w2 ⟨rfl, rfl⟩; rw [HNB.out]) | (go_at_call 58; refine (allowed_any _ _ _).mono ?_; rintro e w2 ⟨rfl, rfl⟩; rw [HAL.out]) | (go_at_call 59; refine (fits_any _ _ _).mono ?_; rintro e w2 ⟨rfl, rfl⟩; rw [HFT.out]))
      go_ret
      exact makepost HMK.out HC.out
    | false =>
      have HNB := hide hnb
      clear hnb hft
      go_enter Tryd.func31, Tryd.ntmps31
      go_wp2_with (first | (go_at_call 56; refine (HLT.out _).mono ?_; rintro e w1 ⟨rfl, ho⟩; have HC := hide ho; clear ho) | (go_at_call 57; refine (numbered_any _ _).mono ?_; rintro e w2 ⟨rfl, rfl⟩; rw [HNB.out]) | (go_at_call 59; refine (fits_any _ _ _).mono ?_; rintro e w2 ⟨rfl, rfl⟩; rw [HFT.out]))
      go_ret
      exact makepost HMK.out HC.out
  | true =>
    have HFT := hide hft
    clear hft
    by_cases hbg : ∃ i, i < l.length ∧ 65536 < (l.getD i ByteArray.empty).size
    · obtain ⟨i0, hi0, hbg⟩ := hbg
      have hz0 : kindT (l.getD i0 ByteArray.empty) = 0 := by rw [kind_zero]; unfold parseV; rw [if_pos hbg]; rfl
      have HMK := hide (make_part (k := k) (n := n) (b := b) hi0 hz0)
      have HI0 := hide (show i0 < m by rw [HM.out]; exact hi0)
      have HZ0 := hide hz0
      have hk4 : (k == 4) = false := by
        rw [beq_eq_false_iff_ne]
        intro e
        have h := (fits4 (k := k) (by omega) (by omega) l).1 (by rw [← HM.out]; exact HFT.out)
        rw [h] at hi0
        exact absurd hi0 (Nat.not_lt_zero _)
      clear hz0 hi0 hbg
      cases hnb : numberedV k
      all_goals
        have HNB := hide hnb
        first | (have HAL := hide (HALW.out hnb)) | skip
        clear hnb
        go_enter Tryd.func31, Tryd.ntmps31
        go_wp2_with (first | (go_at_call 56; refine (HLT.out _).mono ?_; rintro e w1 ⟨rfl, ho⟩; have HC := hide ho; clear ho) | (go_at_call 57; refine (numbered_any _ _).mono ?_; rintro e w2 ⟨rfl, rfl⟩; rw [HNB.out]) | (go_at_call 58; refine (allowed_any _ _ _).mono ?_; rintro e w2 ⟨rfl, rfl⟩; rw [HAL.out]) | (go_at_call 59; refine (fits_any _ _ _).mono ?_; rintro e w2 ⟨rfl, rfl⟩; rw [HFT.out]))
        go_loopw [39, 10] (fun i s wr => ∃ (j : Nat) (x : Int), j ≤ m ∧ i = .int .i64 j ∧ s = .int .i64 x ∧ Hid (Only [] w wr)) (fun i _ _ => m - (intOf i).toNat)
        case atStart => exact ⟨0, 0, Nat.zero_le _, rfl, rfl, HC⟩
        case round =>
          clear HC
          obtain ⟨j, x, hj, rfl, rfl, HC⟩ := hrel
          by_cases hlt : j < m
          · have hltI : (j : Int) < m := by omega
            have hjl : j < l.length := by rw [← HM.out]; exact hlt
            obtain ⟨g, o, rfl, _, hg, hcell⟩ := (HV.out.only HC.out (by simp)).at_.2.2.2 j (.string (l.getD j ByteArray.empty)) (by simp [strs, List.getElem?_eq_getElem hjl])
            generalize l.getD j ByteArray.empty = part at *
            clear hjl
            go_wp2_with fail
            · go_ret
              exact makepost HMK.out HC.out
            · go_roundw
              case rel => exact ⟨j + 1, _, by omega, by go_num, rfl, HC⟩
              case measure => simp [intOf]; omega
          · have hge : ¬ (j : Int) < m := by omega
            clear hlt hj
            go_wp2_with fail
            go_loopw [60] (fun i wr => ∃ j : Nat, j ≤ m ∧ i = .int .i64 j ∧ Hid (∀ i, i < j → kindT (l.getD i ByteArray.empty) ≠ 0) ∧ Hid (Only [] w wr)) (fun i _ => m - (intOf i).toNat)
            case atStart => exact ⟨0, Nat.zero_le _, rfl, hide (fun i h => absurd h (Nat.not_lt_zero i)), HC⟩
            case round =>
              clear HC
              obtain ⟨j, hj, rfl, HK, HC⟩ := hrel
              by_cases hlt : j < m
              · have hltI : (j : Int) < m := by omega
                have hjl : j < l.length := by rw [← HM.out]; exact hlt
                obtain ⟨g, o, rfl, _, hg, hcell⟩ := (HV.out.only HC.out (by simp)).at_.2.2.2 j (.string (l.getD j ByteArray.empty)) (by simp [strs, List.getElem?_eq_getElem hjl])
                have HKD := hide (fun W => Kind_any W (l.getD j ByteArray.empty) (by have := HSZ.out (l.getD j ByteArray.empty) (by rw [List.getD_eq_getElem?_getD, List.getElem?_eq_getElem hjl]; exact List.getElem_mem hjl); unfold maxLen; omega))
                unfold KindPost at HKD
                by_cases hz : kindT (l.getD j ByteArray.empty) = 0
                · rw [hz] at HKD
                  generalize l.getD j ByteArray.empty = part at *
                  clear hz hjl
                  go_wp2_with (go_at_call 27; refine (HKD.out _).mono ?_; rintro e w5 ⟨rfl, ho⟩; have HC := hide (HC.out.trans ho); clear ho)
                  go_ret
                  exact makepost HMK.out HC.out
                · have HZ := hide (show ∀ i, i < j + 1 → kindT (l.getD i ByteArray.empty) ≠ 0 from fun i hi => (Nat.lt_or_eq_of_le (Nat.le_of_lt_succ hi)).elim (HK.out i) (fun h => by rw [h]; exact hz))
                  have hzb : (kindT (l.getD j ByteArray.empty) == 0) = false := by rw [beq_eq_false_iff_ne]; exact hz
                  generalize l.getD j ByteArray.empty = part at *
                  generalize kindT part = kp at *
                  clear hz hjl
                  go_wp2_with (go_at_call 27; refine (HKD.out _).mono ?_; rintro e w5 ⟨rfl, ho⟩; have HC := hide (HC.out.trans ho); clear ho)
                  go_roundw
                  case rel => exact ⟨j + 1, by omega, by go_num, HZ, HC⟩
                  case measure => simp [intOf]; omega
              · exact absurd HZ0.out (HK.out i0 (by have := HI0.out; omega))
    have HSM := hide (show ∀ i, i < l.length → (l.getD i ByteArray.empty).size ≤ 65536 from fun i hi => by apply Decidable.byContradiction; intro h; exact hbg ⟨i, hi, by omega⟩)
    clear hbg
    cases hnb : numberedV k
    all_goals
      have HNB := hide hnb
      first | (have HAL := hide (HALW.out hnb)) | skip
      clear hnb
      go_enter Tryd.func31, Tryd.ntmps31
      go_wp2_with (first | (go_at_call 56; refine (HLT.out _).mono ?_; rintro e w1 ⟨rfl, ho⟩; have HC := hide ho; clear ho) | (go_at_call 57; refine (numbered_any _ _).mono ?_; rintro e w2 ⟨rfl, rfl⟩; rw [HNB.out]) | (go_at_call 58; refine (allowed_any _ _ _).mono ?_; rintro e w2 ⟨rfl, rfl⟩; rw [HAL.out]) | (go_at_call 59; refine (fits_any _ _ _).mono ?_; rintro e w2 ⟨rfl, rfl⟩; rw [HFT.out]))
      go_loopw [39, 10] (fun i s wr => ∃ j : Nat, j ≤ m ∧ i = .int .i64 j ∧ s = .int .i64 (sumL (l.take j) : Nat) ∧ sumL (l.take j) ≤ 65536 ∧ Hid (Only [] w wr)) (fun i _ _ => m - (intOf i).toNat)
      case atStart => exact ⟨0, Nat.zero_le _, rfl, rfl, Nat.zero_le _, HC⟩
      case round =>
        clear HC
        obtain ⟨j, hj, rfl, rfl, hsum, HC⟩ := hrel
        by_cases hlt : j < m
        · have hltI : (j : Int) < m := by omega
          have hjl : j < l.length := by rw [← HM.out]; exact hlt
          have HJS := hide (sumL_take l j hjl)
          obtain ⟨g, o, rfl, _, hg, hcell⟩ := (HV.out.only HC.out (by simp)).at_.2.2.2 j (.string (l.getD j ByteArray.empty)) (by simp [strs, List.getElem?_eq_getElem hjl])
          have hps := HSM.out j hjl
          obtain ⟨u, hu⟩ : ∃ u, u = sumL (l.take j) := ⟨_, rfl⟩
          have HU := hide hu
          rw [← hu] at hsum ⊢
          clear hu
          generalize l.getD j ByteArray.empty = part at *
          by_cases hbig : 65536 < u + (part.size + 1)
          · have hbigI : (65536 : Int) < (u : Int) + ((part.size : Int) + 1) := by omega
            have HMK := hide (make_big (k := k) (n := n) (b := b) (l := l) (by have := sumL_mono l (j + 1); have := HJS.out; have := HU.out; omega))
            clear hbig hjl
            go_wp2_with fail
            go_ret
            exact makepost HMK.out HC.out
          · have hbigI : ¬ (65536 : Int) < (u : Int) + ((part.size : Int) + 1) := by omega
            clear hbig hjl
            have hle : u + (part.size + 1) ≤ 65536 := by omega
            go_wp2_with fail
            go_roundw
            case rel => exact ⟨j + 1, by omega, by go_num, by rw [HJS.out, ← HU.out]; go_num, by rw [HJS.out, ← HU.out]; exact hle, HC⟩
            case measure => simp [intOf]; omega
        · have hge : ¬ (j : Int) < m := by omega
          have HSUM := hide (show sumL l ≤ 65536 by have h := hsum; rw [List.take_of_length_le (by have := HM.out; omega)] at h; exact h)
          clear hlt hj hsum
          by_cases hd : k = 4 ∧ 65536 < b.length
          · obtain ⟨rfl, hd⟩ := hd
            have HMK := hide (make_data (n := n) (l := l) (rfl : (4 : Int) = 4) hd)
            have hdI : (65536 : Int) < b.length := by omega
            clear hd
            go_wp2_with fail
            go_ret
            exact makepost HMK.out HC.out
          have HD := hide (show k = 4 → b.length ≤ 65536 from fun h => by apply Decidable.byContradiction; intro h2; exact hd ⟨h, by omega⟩)
          have hcut : ((k == 4) = true ∧ ¬ (65536 : Int) < b.length) ∨ (k == 4) = false := by
            by_cases h : k = 4
            · exact .inl ⟨by rw [beq_iff_eq]; exact h, by have := HD.out h; omega⟩
            · exact .inr (by rw [beq_eq_false_iff_ne]; exact h)
          clear hd
          rcases hcut with ⟨hk4, hbl⟩ | hk4
          all_goals
            go_wp2_with fail
            go_loopw [60] (fun i wr => ∃ j : Nat, j ≤ m ∧ i = .int .i64 j ∧ Hid (∀ i, i < j → kindT (l.getD i ByteArray.empty) ≠ 0) ∧ Hid (Only [] w wr)) (fun i _ => m - (intOf i).toNat)
            case atStart => exact ⟨0, Nat.zero_le _, rfl, hide (fun i h => absurd h (Nat.not_lt_zero i)), HC⟩
            case round =>
              clear HC
              obtain ⟨j, hj, rfl, HK, HC⟩ := hrel
              by_cases hlt : j < m
              · have hltI : (j : Int) < m := by omega
                have hjl : j < l.length := by rw [← HM.out]; exact hlt
                obtain ⟨g, o, rfl, _, hg, hcell⟩ := (HV.out.only HC.out (by simp)).at_.2.2.2 j (.string (l.getD j ByteArray.empty)) (by simp [strs, List.getElem?_eq_getElem hjl])
                have HKD := hide (fun W => Kind_any W (l.getD j ByteArray.empty) (by unfold maxLen; have := size_le l j hjl; have := HSUM.out; omega))
                unfold KindPost at HKD
                by_cases hz : kindT (l.getD j ByteArray.empty) = 0
                · have HMK := hide (make_part (k := k) (n := n) (b := b) hjl hz)
                  rw [hz] at HKD
                  generalize l.getD j ByteArray.empty = part at *
                  clear hz hjl
                  go_wp2_with (go_at_call 27; refine (HKD.out _).mono ?_; rintro e w5 ⟨rfl, ho⟩; have HC := hide (HC.out.trans ho); clear ho)
                  go_ret
                  exact makepost HMK.out HC.out
                · have HZ := hide (show ∀ i, i < j + 1 → kindT (l.getD i ByteArray.empty) ≠ 0 from fun i hi => (Nat.lt_or_eq_of_le (Nat.le_of_lt_succ hi)).elim (HK.out i) (fun h => by rw [h]; exact hz))
                  have hzb : (kindT (l.getD j ByteArray.empty) == 0) = false := by rw [beq_eq_false_iff_ne]; exact hz
                  generalize hpt : l.getD j ByteArray.empty = part at *
                  generalize kindT part = kp at *
                  have HPT := hide hpt
                  clear hz hjl hpt
                  go_wp2_with (go_at_call 27; refine (HKD.out _).mono ?_; rintro e w5 ⟨rfl, ho⟩; have HC := hide (HC.out.trans ho); clear ho)
                  go_roundw
                  case rel => exact ⟨j + 1, by omega, by go_num, HZ, HC⟩
                  case measure => simp [intOf]; omega
              · have hge : ¬ (j : Int) < m := by omega
                have HKA := hide (show ∀ i, i < l.length → kindT (l.getD i ByteArray.empty) ≠ 0 from fun i hi => HK.out i (by have := HM.out; omega))
                have HJ2 := hide (fun W ho => HJ.out HFT.out HSUM.out HD.out W ho)
                by_cases hlong : 65536 < (txtL k n b (sortV k l)).length
                · have HMK := hide (make_long hlong)
                  have hlongI : (65536 : Int) < (⟨(txtL k n b (sortV k l)).toArray⟩ : ByteArray).size := by show (65536 : Int) < ((txtL k n b (sortV k l)).toArray.size : Nat); rw [List.size_toArray]; omega
                  generalize (⟨(txtL k n b (sortV k l)).toArray⟩ : ByteArray) = txt at *
                  clear hlong
                  go_wp2_with (go_at_call 60; refine (HJ2.out _ HC.out).mono ?_; rintro e w5 ⟨rfl, ho⟩; have HC := hide (HC.out.trans ho); clear ho)
                  go_ret
                  exact makepost HMK.out HC.out
                · have HMK := hide (make_is (b := b) HR.out HALW.out (by rw [← HM.out]; exact HFT.out) HKA.out (by omega))
                  have hlongI : ¬ (65536 : Int) < (⟨(txtL k n b (sortV k l)).toArray⟩ : ByteArray).size := by show ¬ (65536 : Int) < ((txtL k n b (sortV k l)).toArray.size : Nat); rw [List.size_toArray]; omega
                  unfold bytesOf at HMK
                  generalize (⟨(txtL k n b (sortV k l)).toArray⟩ : ByteArray) = txt at *
                  clear hlong
                  go_wp2_with (go_at_call 60; refine (HJ2.out _ HC.out).mono ?_; rintro e w5 ⟨rfl, ho⟩; have HC := hide (HC.out.trans ho); clear ho)
                  go_ret
                  exact makepost HMK.out HC.out
end
section
open Go.RowKit Go.Deep

theorem three_of {k : Int} {parts : List ByteArray} (hk : k = 10) (hm : fitsV k parts.length = true) : ∃ a b c, parts = [a, b, c] := by
  subst hk
  have hl : parts.length = 3 := by
    simp only [fitsV, leastV, mostV] at hm
    simp at hm
    omega
  match parts, hl with
  | [a, b, c], _ => exact ⟨a, b, c, rfl⟩
theorem open_is {t key v : ByteArray} {n m : Nat} {bs : List UInt8} {p0 p1 p2 : ByteArray} (hp : parseV t = some (10, m, bs, [p0, p1, p2])) :
    openT t key n v = if (eqB p0 key && decide (m = n) && eqB p2 v) = true then (p1, 0) else (ByteArray.empty, 8) := by
  unfold openT
  rw [hp]
  simp only
  rw [if_neg (by decide)]
  by_cases h : p0 = key ∧ m = n ∧ p2 = v
  · obtain ⟨rfl, rfl, rfl⟩ := h
    rw [if_pos ⟨rfl, rfl, rfl⟩, (eqB_iff p0 p0).2 rfl, (eqB_iff p2 p2).2 rfl, decide_eq_true rfl]
    rfl
  · rw [if_neg (show ¬ ([p0, p1, p2].getD 0 ByteArray.empty = key ∧ m = n ∧ [p0, p1, p2].getD 2 ByteArray.empty = v) from h), if_neg]
    intro h2
    simp only [Bool.and_eq_true, decide_eq_true_eq] at h2
    exact h ⟨(eqB_iff _ _).1 h2.1.1, h2.1.2, (eqB_iff _ _).1 h2.2⟩

set_option maxRecDepth 100000 in
set_option maxHeartbeats 6400000 in
theorem Open_any (w : World) (t key v : ByteArray) (n : Nat) (hs : t.size ≤ maxLen) : Calls Tryd.prog 33 #[.string t, .string key, .int .u64 n, .string v] w (OpenPost (openT t key n v) w) := by
  have HP := hide (parse_any w t hs)
  cases hp : parseV t with
  | none =>
    rw [hp] at HP
    have HV := hide (show openT t key n v = (ByteArray.empty, 3) by unfold openT; rw [hp])
    clear hp
    go_enter Tryd.func33, Tryd.ntmps33
    go_wp2_with (go_at_call 55; refine HP.out.mono ?_; rintro e w1 ⟨rfl, ho⟩; unfold nd0; have HO := hide ho; clear ho)
    go_ret2
    exact openpost HV.out (HO.out.alloc _)
  | some nd =>
    obtain ⟨k, m, bs, parts⟩ := nd
    have hm := (read_make hp).2.2.2.1
    by_cases hk : k = 10
    · obtain ⟨p0, p1, p2, rfl⟩ := three_of hk hm
      subst hk
      have HV := hide (open_is (key := key) (n := n) (v := v) hp)
      rw [hp] at HP
      clear hp hm
      unfold eqB at HV
      rcases Bool.eq_false_or_eq_true (p0.toList == key.toList) with e0 | e0
      all_goals
        rcases Bool.eq_false_or_eq_true (p2.toList == v.toList) with e2 | e2
        all_goals
          rcases Bool.eq_false_or_eq_true (decide (m = n)) with em | em
          all_goals
            rw [e0, e2, em] at HV
            simp only [Bool.and_true, Bool.and_false, Bool.false_and, Bool.true_and, if_true, if_false, Bool.false_eq_true] at HV
            have em2 : ((m : Int) != (n : Int)) = !decide (m = n) := by
              by_cases h : m = n
              · subst h; simp
              · rw [decide_eq_false h]; simp; omega
            rw [em] at em2
            simp only [Bool.not_true, Bool.not_false] at em2
            clear em
            go_enter Tryd.func33, Tryd.ntmps33
            go_wp2_with (go_at_call 55; refine HP.out.mono ?_; rintro e w1 ⟨bv, pv, rfl, ho, hb, hp⟩; obtain ⟨A, cap, rfl, _, _⟩ := (hb [] (by simp)).formb; obtain ⟨A2, cap2, rfl, _, _⟩ := (hp [] (by simp)).form; obtain ⟨g, o, rfl, _, hc⟩ := rd_strs ((hp [] (by simp)).only ((Only.refl [] _).alloc (.cells #[.int .i64 10, .int .u64 (m : Nat), .slice A bs.length cap, .slice A2 3 cap2] 108)) (by simp)) (by simp); have s0 := hc 0 (by simp); have s1 := hc 1 (by simp); have s2 := hc 2 (by simp); simp at s0 s1 s2; have HO := hide ho; clear ho hb hp hc; simp only [strs, List.map_cons, List.map_nil, List.length_cons, List.length_nil])
            go_ret2
            exact openpost HV.out (HO.out.alloc _)
    · have HV := hide (show openT t key n v = (ByteArray.empty, 3) by unfold openT; rw [hp]; simp only; rw [if_pos hk])
      rw [hp] at HP
      have hkb : (k != 10) = true := by rw [bne_iff_ne]; exact hk
      clear hp hk hm
      go_enter Tryd.func33, Tryd.ntmps33
      go_wp2_with (go_at_call 55; refine HP.out.mono ?_; rintro e w1 ⟨bv, pv, rfl, ho, hb, hp⟩; obtain ⟨A, cap, rfl, _, _⟩ := (hb [] (by simp)).formb; obtain ⟨A2, cap2, rfl, _, _⟩ := (hp [] (by simp)).form; have HO := hide ho; clear ho hb hp)
      go_ret2
      exact openpost HV.out (HO.out.alloc _)
end
section
open Go.RowKit Go.Deep

theorem make_size {k : Int} {n : Nat} {b : List UInt8} {l : List ByteArray} (hn : n < 18446744073709551616) (h : makeV k n b l ≠ ByteArray.empty) : (makeV k n b l).size ≤ 65536 := parse_size (make_read hn h)
end
section
open Go.RowKit Go.Deep

theorem make_size' (k : Int) (n : Nat) (b : List UInt8) (l : List ByteArray) (hn : n < 18446744073709551616) : (makeV k n b l).size ≤ maxLen := by
  by_cases h : makeV k n b l = ByteArray.empty
  · rw [h]; exact Nat.zero_le _
  · exact Nat.le_trans (make_size hn h) (by unfold maxLen; omega)
end
section
open Go.RowKit Go.Deep

theorem txt_le (k : Int) (n : Nat) (hn : n < 18446744073709551616) (b : List UInt8) (l : List ByteArray) (h5 : 5 ≤ k) : (txtL k n b l).length ≤ sumL l + 24 := by
  have h1 := join_le l
  have h2 := dec_len n hn
  unfold txtL
  rw [if_neg (by omega), if_neg (by omega), if_neg (by omega)]
  split
  · split <;> simp only [List.length_cons, List.length_append, List.length_nil] <;> omega
  · simp only [List.length_cons, List.length_append, List.length_nil]
    omega
theorem sort_sum (k : Int) (l : List ByteArray) (h : k = 6 → l.length = 2) : sumL (sortV k l) = sumL l := by
  by_cases h6 : k = 6
  · match l, h h6 with
    | [x, y], _ =>
      unfold sortV
      split
      · show y.size + 1 + (x.size + 1 + 0) = x.size + 1 + (y.size + 1 + 0)
        omega
      · rfl
  · rw [sort_not6 h6]
theorem made_of {k : Int} {n : Nat} (b : List UInt8) {l : List ByteArray} (h5 : 5 ≤ k) (h11 : k ≤ 11) (hn : n < 18446744073709551616) (h2 : numberedV k = true → allowedV k n = true) (h3 : fitsV k l.length = true)
    (h4 : ∀ p ∈ l, (parseV p).isSome = true) (hs : sumL l ≤ 65000) : makeV k n b l = bytesOf (txtL k n b (sortV k l)) := by
  refine make_is ⟨by omega, h11⟩ h2 h3 (fun j hj => ?_) ?_
  · have h := h4 (l.getD j ByteArray.empty) (by rw [List.getD_eq_getElem?_getD, List.getElem?_eq_getElem hj]; exact List.getElem_mem hj)
    obtain ⟨nd, h1⟩ := Option.isSome_iff_exists.1 h
    have h6 := kind_pos (k := nd.1) (n := nd.2.1) (b := nd.2.2.1) (l := nd.2.2.2) h1
    unfold kindT
    rw [h1]
    show nd.1 ≠ 0
    omega
  · have h6 := txt_le k n hn b (sortV k l) h5
    rw [sort_sum k l (fun h => by subst h; obtain ⟨p, q, rfl⟩ := fits_six h3; rfl)] at h6
    omega
/-- A term of at most so many bytes. -/
def Tn (N : Nat) (s : ByteArray) : Prop := (parseV s).isSome = true ∧ s.size ≤ N
theorem Tn.mono {M N : Nat} {s : ByteArray} (h : Tn M s) (hn : M ≤ N) : Tn N s := ⟨h.1, Nat.le_trans h.2 hn⟩
theorem Tn.ne {N : Nat} {s : ByteArray} (h : Tn N s) : s ≠ ByteArray.empty := by
  rintro rfl
  have h1 := h.1
  rw [show parseV ByteArray.empty = none from by kernel_rfl] at h1
  cases h1
theorem tn_make {k : Int} {n : Nat} {b : List UInt8} {l : List ByteArray} (h5 : 5 ≤ k) (h11 : k ≤ 11) (hn : n < 18446744073709551616) (h2 : numberedV k = true → allowedV k n = true) (h3 : fitsV k l.length = true)
    (h4 : ∀ p ∈ l, (parseV p).isSome = true) (N : Nat) (hs : sumL l + 24 ≤ N) (hN : N ≤ 65000) : Tn N (makeV k n b l) := by
  have he := made_of b h5 h11 hn h2 h3 h4 (by omega)
  have hne : makeV k n b l ≠ ByteArray.empty := by rw [he]; exact bytes_ne (txt_ne _ _ _ _)
  refine ⟨by rw [make_read hn hne]; rfl, ?_⟩
  rw [he, bytesOf_size]
  have h6 := txt_le k n hn b (sortV k l) h5
  rw [sort_sum k l (fun h => by subst h; obtain ⟨p, q, rfl⟩ := fits_six h3; rfl)] at h6
  omega
section
variable {a c d : Nat} {x y z : ByteArray}
theorem tn_seal (n : Nat) (hn : n < 18446744073709551616) (hx : Tn a x) (hy : Tn c y) (hz : Tn d z) (h : a + c + d ≤ 60000) : Tn (a + c + d + 27) (makeV 10 n [] [x, y, z]) :=
  tn_make (by omega) (by omega) hn (fun _ => by unfold allowedV; rw [if_neg (by decide), if_neg (by decide)]) (by show fitsV 10 3 = true; decide) (by intro p hp; simp at hp; rcases hp with rfl | rfl | rfl; exact hx.1; exact hy.1; exact hz.1) _ (by have := hx.2; have := hy.2; have := hz.2; show x.size + 1 + (y.size + 1 + (z.size + 1 + 0)) + 24 ≤ a + c + d + 27; omega) (by omega)
end
end
section
open Go.RowKit Go.Deep

/-- Block g is a pair; block c its window. -/
def PairIs (w : World) (g c : Nat) (s1 s2 : ByteArray) (lo re : Int) (beg : Bool) (made sent : Int) : Prop :=
  Blk w g 69 #[.string s1, .string s2, .int .u32 lo, .int .u32 re, .bool beg, .int .i64 made, .int .u64 sent, .pointer (some ⟨c, 0, none⟩)]
theorem PairIs.only {S : List Nat} {w w' : World} {g c : Nat} {s1 s2 : ByteArray} {lo re : Int} {beg : Bool} {made sent : Int} (h : PairIs w g c s1 s2 lo re beg made sent) (ho : Only S w w') (hg : g ∉ S) : PairIs w' g c s1 s2 lo re beg made sent := Blk.only h ho hg
def winZero : Array Value := (List.replicate 32 (Value.int .u64 0) ++ [Value.int .u64 0, Value.bool false]).toArray
def NewPost (s1 s2 : ByteArray) (lo re : Int) (beg : Bool) (made : Int) (w : World) (e : Ending) (w' : World) : Prop :=
  ∃ g c, e = .returned (.tuple #[.pointer (some ⟨g, 0, none⟩), .int .i64 0]) ∧ w.heap.size ≤ g ∧ w.heap.size ≤ c ∧ g ≠ c ∧ PairIs w' g c s1 s2 lo re beg made 0 ∧ Blk w' c 113 winZero ∧ Only [] w w'
theorem newpost {s1 s2 : ByteArray} {lo re : Int} {beg : Bool} {made : Int} {w w' : World} {g c : Nat} (h1 : w.heap.size ≤ g) (h2 : w.heap.size ≤ c) (h3 : g ≠ c) (h4 : PairIs w' g c s1 s2 lo re beg made 0) (h5 : Blk w' c 113 winZero) (h6 : Only [] w w') :
    NewPost s1 s2 lo re beg made w (.returned (.tuple #[.pointer (some ⟨g, 0, none⟩), .int .i64 0])) w' := ⟨g, c, rfl, h1, h2, h3, h4, h5, h6⟩

def timeV (t : Int) : Bool := decide (0 ≤ t) && decide (t ≤ 1125899906842624)
set_option maxHeartbeats 1600000 in
theorem time_any (t : Int) (w : World) : Calls Tryd.prog 28 #[.int .i64 t] w fun e w' => e = .returned (.bool (timeV t)) ∧ w = w' := by
  go_enter Tryd.func28, Tryd.ntmps28
  go_wp2
  all_goals
    go_ret
    exact ⟨by first | (simp_all [timeV]; done) | (simp_all [timeV]; omega), rfl⟩

set_option maxRecDepth 100000 in
set_option maxHeartbeats 1600000 in
theorem window_new (w : World) : Calls Tryd.prog 29 #[] w fun e w' => e = .returned (.pointer (some ⟨w.heap.size, 0, none⟩)) ∧ w' = w.alloc (.cells winZero 113) := by
  go_enter Tryd.func29, Tryd.ntmps29
  go_wp2
  go_ret
  exact ⟨rfl, rfl⟩

set_option maxRecDepth 100000 in
set_option maxHeartbeats 3200000 in
theorem pair_new (w : World) (s1 s2 : ByteArray) (lo re : Int) (beg : Bool) (made : Int) (h1 : s1.size ≤ maxLen) (h2 : s2.size ≤ maxLen) (hk1 : kindT s1 ≠ 0) (hk2 : kindT s2 ≠ 0) (hm : 0 ≤ made) (hm2 : made ≤ 1125899906842624) :
    Calls Tryd.prog 7 #[.agg #[.string s1, .string s2], .int .u32 lo, .int .u32 re, .bool beg, .int .i64 made] w (NewPost s1 s2 lo re beg made w) := by
  have HK1 := hide (fun W => Kind_any W s1 h1)
  have HK2 := hide (fun W => Kind_any W s2 h2)
  have t1 : (kindT s1 == 0) = false := by simpa using hk1
  have t2 : (kindT s2 == 0) = false := by simpa using hk2
  have htm : timeV made = true := by unfold timeV; rw [decide_eq_true hm, decide_eq_true hm2]; rfl
  have HTM := hide htm
  have HB := hide (Blk.new w 29 #[.string s1, .string s2])
  have HO := hide ((Only.refl [] w).alloc (.cells #[.string s1, .string s2] 29))
  have k0 := HB.out.cell 0
  have k1 := HB.out.cell 1
  simp at k0 k1
  clear hk1 hk2 h1 h2 htm
  unfold KindPost at HK1 HK2
  generalize kindT s1 = a1 at *
  generalize kindT s2 = a2 at *
  go_enter Tryd.func7, Tryd.ntmps7
  go_wp2_with (first
    | (go_at_call 27; (with_reducible refine (HK1.out _).mono ?_); rintro e w1 ⟨rfl, ho⟩; have HO1 := hide (HO.out.trans ho); have HB1 := hide (HB.out.only ho (by simp)); clear k0 k1; have k0 := HB1.out.cell 0; have k1 := HB1.out.cell 1; simp at k0 k1; clear ho)
    | (go_at_call 27; (with_reducible refine (HK2.out _).mono ?_); rintro e w2 ⟨rfl, ho⟩; have HO2 := hide (HO1.out.trans ho); have HB2 := hide (HB1.out.only ho (by simp)); clear k0 k1; have k0 := HB2.out.cell 0; have k1 := HB2.out.cell 1; simp at k0 k1; clear ho)
    | (go_at_call 28; refine (time_any _ _).mono ?_; rintro e w' ⟨rfl, rfl⟩; rw [HTM.out]))
  go_region_held3 (fun w' => w'.cell? ⟨w.heap.size, 0, none⟩ = some (.string s1) ∧ w'.cell? ⟨w.heap.size, 1, none⟩ = some (.string s2)) (first | exact ⟨k0, k1⟩ | exact ⟨j0, j1⟩)
    (first | (go_at_call 29; refine (window_new _).mono ?_; rintro e w3 ⟨rfl, hw3⟩; have HB3 := hide (show Blk w3 w.heap.size 29 #[.string s1, .string s2] by rw [hw3]; exact HB2.out.drew.alloc _); have HW3 := hide (show Blk w3 w2.heap.size 113 winZero by rw [hw3]; exact Blk.new w2.drew _ _); have HO3 := hide (show Only [] w w3 by rw [hw3]; exact HO2.out.drew.alloc _); clear k0 k1 hw3; have k0 := HB3.out.cell 0; have k1 := HB3.out.cell 1; have j0 := (HB3.out.alloc (.cells #[.string s1, .string s2, .int .u32 lo, .int .u32 re, .bool beg, .int .i64 made, .int .u64 0, .pointer (some ⟨w2.heap.size, 0, none⟩)] 69)).cell 0; have j1 := (HB3.out.alloc (.cells #[.string s1, .string s2, .int .u32 lo, .int .u32 re, .bool beg, .int .i64 made, .int .u64 0, .pointer (some ⟨w2.heap.size, 0, none⟩)] 69)).cell 1; simp at k0 k1 j0 j1))
  all_goals
    go_wp2_with fail
    go_ret2
    exact newpost (HO3.out.size) (HO2.out.size) (by have := HW3.out.lt; omega) (Blk.new w3 _ _) (HW3.out.alloc _) (HO3.out.alloc _)
end
section
open Go.RowKit

def winCells (ws : List Nat) (top : Nat) (sm : Bool) : List Value := ws.map (fun (n : Nat) => Value.int .u64 (n : Int)) ++ [.int .u64 (top : Int), .bool sm]

def WinAt (w : World) (b : Nat) (ws : List Nat) (top : Nat) (sm : Bool) : Prop :=
  Blk w b 113 (winCells ws top sm).toArray ∧ ws.length = 32 ∧ (∀ x ∈ ws, x < 18446744073709551616) ∧ top < 18446744073709551616

theorem win_word {w : World} {b : Nat} {ws : List Nat} {top : Nat} {sm : Bool} (h : WinAt w b ws top sm) {i : Nat} (hi : i < 32) : w.cell? ⟨b, i, none⟩ = some (.int .u64 (ws.getD i 0 : Nat)) := by
  rw [h.1.cell]
  have hi' : i < ws.length := by rw [h.2.1]; exact hi
  simp [winCells, List.getElem?_append_left, hi', List.getD_eq_getElem?_getD]
theorem win_top {w : World} {b : Nat} {ws : List Nat} {top : Nat} {sm : Bool} (h : WinAt w b ws top sm) : w.cell? ⟨b, 32, none⟩ = some (.int .u64 (top : Int)) := by
  rw [h.1.cell]
  simp [winCells, List.getElem?_append_right, h.2.1]
theorem win_some {w : World} {b : Nat} {ws : List Nat} {top : Nat} {sm : Bool} (h : WinAt w b ws top sm) : w.cell? ⟨b, 33, none⟩ = some (.bool sm) := by
  rw [h.1.cell]
  simp [winCells, List.getElem?_append_right, h.2.1]

/-- The bit of a counter's place. -/
def wbit (ws : List Nat) (i : Nat) : Bool := (ws.getD (i / 64) 0).testBit (i % 64)

theorem bit_and_one (x k : Nat) (hx : x < 18446744073709551616) : (bits .and .u64 ((x : Int) / 2 ^ k) 1 == 1) = x.testBit k := by
  have e1 : (x : Int) / 2 ^ k = ((x / 2 ^ k : Nat) : Int) := by push_cast; rfl
  have hlt : x / 2 ^ k < 18446744073709551616 := Nat.lt_of_le_of_lt (Nat.div_le_self _ _) hx
  have e2 := u64_and_nat (x / 2 ^ k) 1 hlt (by omega)
  rw [e1, show (1 : Int) = ((1 : Nat) : Int) by rfl, e2, Nat.testBit_eq_decide_div_mod_eq, Nat.and_one_is_mod]
  rw [Bool.eq_iff_iff]
  simp
  omega

theorem win_has (w : World) (b : Nat) (ws : List Nat) (top : Nat) (sm : Bool) (c : Nat) (hw : WinAt w b ws top sm) (hc : c < 18446744073709551616) :
    Calls Tryd.prog 61 #[.pointer (some ⟨b, 0, none⟩), .int .u64 c] w fun e w' => e = .returned (.bool (wbit ws (c % 2048))) ∧ w = w' := by
  have hi : c % 2048 / 64 < 32 := by omega
  have hcell := win_word hw hi
  unfold wbit
  have hxl : ws.getD (c % 2048 / 64) 0 < 18446744073709551616 := by
    rw [List.getD_eq_getElem?_getD, List.getElem?_eq_getElem (by rw [hw.2.1]; exact hi)]
    exact hw.2.2.1 _ (List.getElem_mem _)
  generalize ws.getD (c % 2048 / 64) 0 = x at hcell hxl
  have hi' : (c : Int) % 2048 / 64 < 32 := by omega
  have HX := hide hxl
  clear hw hxl
  go_enter Tryd.func61, Tryd.ntmps61
  go_wp2_with fail
  go_ret
  refine ⟨?_, rfl⟩
  have h := bit_and_one x (c % 64) HX.out
  have e : c % 2048 % 64 = c % 64 := by omega
  rw [e, ← h]
  rfl

/-- The window behind b: its bits, its top, whether it took any. -/
def WinIs (w : World) (b : Nat) (B : Nat → Bool) (top : Nat) (sm : Bool) : Prop := ∃ ws, WinAt w b ws top sm ∧ ∀ i, i < 2048 → wbit ws i = B i

theorem WinIs.only {S : List Nat} {w w' : World} {b top : Nat} {B : Nat → Bool} {sm : Bool} (h : WinIs w b B top sm) (ho : Only S w w') (hb : b ∉ S) : WinIs w' b B top sm := by
  obtain ⟨ws, h, hB⟩ := h
  exact ⟨ws, ⟨h.1.only ho hb, h.2⟩, hB⟩
theorem WinIs.lt {w : World} {b top : Nat} {B : Nat → Bool} {sm : Bool} (h : WinIs w b B top sm) : b < w.heap.size := by
  obtain ⟨ws, h, _⟩ := h
  exact h.1.lt
theorem WinIs.ext {w : World} {b top : Nat} {B B' : Nat → Bool} {sm : Bool} (h : WinIs w b B top sm) (hB : ∀ i, i < 2048 → B i = B' i) : WinIs w b B' top sm := by
  obtain ⟨ws, h, h2⟩ := h
  exact ⟨ws, h, fun i hi => (h2 i hi).trans (hB i hi)⟩

theorem win_setcell (ws : List Nat) (top : Nat) (sm : Bool) (i v : Nat) (h : i < ws.length) : (winCells ws top sm).toArray.setIfInBounds i (.int .u64 (v : Int)) = (winCells (ws.set i v) top sm).toArray := by
  simp [winCells, List.set_append_left _ _ (show i < (ws.map fun (n : Nat) => Value.int .u64 (n : Int)).length by simpa using h), List.map_set]

theorem two_pow_lt (k : Nat) (h : k < 64) : 2 ^ k < 18446744073709551616 := by
  have : 2 ^ k ≤ 2 ^ 63 := Nat.pow_le_pow_right (by omega) (by omega)
  omega
theorem wrap_two_pow (k : Nat) (h : k < 64) : IntKind.u64.wrap (2 ^ k) = ((2 ^ k : Nat) : Int) := by
  have h1 := two_pow_lt k h
  have e : ((2 : Int) ^ k) = ((2 ^ k : Nat) : Int) := by push_cast; rfl
  rw [e, IntKind.wrap_u64]
  generalize 2 ^ k = p at h1
  omega

theorem getD_set_nat (ws : List Nat) (i j v : Nat) (h : i < ws.length) : (ws.set i v).getD j 0 = if i = j then v else ws.getD j 0 := by
  by_cases hij : i = j
  · subst hij; simp [List.getD_eq_getElem?_getD, h]
  · simp [List.getD_eq_getElem?_getD, hij]

theorem wbit_or (ws : List Nat) (q i x : Nat) (hx : ws.getD (q / 64) 0 = x) (h : q / 64 < ws.length) : wbit (ws.set (q / 64) (x ||| 2 ^ (q % 64))) i = (decide (i = q) || wbit ws i) := by
  unfold wbit
  rw [getD_set_nat _ _ _ _ h]
  by_cases h1 : q / 64 = i / 64
  · rw [if_pos h1, Nat.testBit_or, Nat.testBit_two_pow, ← h1, hx, Bool.or_comm]
    congr 1
    rw [decide_eq_decide]
    omega
  · rw [if_neg h1, decide_eq_false (by rintro rfl; exact h1 rfl)]
    rfl
theorem wbit_andNot (ws : List Nat) (q i x : Nat) (hx : ws.getD (q / 64) 0 = x) (h : q / 64 < ws.length) : wbit (ws.set (q / 64) (x &&& (18446744073709551615 - 2 ^ (q % 64)))) i = (!decide (i = q) && wbit ws i) := by
  unfold wbit
  rw [getD_set_nat _ _ _ _ h]
  by_cases h1 : q / 64 = i / 64
  · have e : 18446744073709551615 - 2 ^ (q % 64) = 2 ^ 64 - (2 ^ (q % 64) + 1) := by omega
    rw [if_pos h1, Nat.testBit_and, e, Nat.testBit_two_pow_sub_succ (two_pow_lt _ (Nat.mod_lt _ (by omega))), Nat.testBit_two_pow, ← h1, hx, Bool.and_comm, decide_eq_true (Nat.mod_lt i (by omega)), Bool.true_and]
    congr 2
    rw [decide_eq_decide]
    omega
  · rw [if_neg h1, decide_eq_false (by rintro rfl; exact h1 rfl)]
    rfl

theorem winis_has (w : World) (b : Nat) (B : Nat → Bool) (top : Nat) (sm : Bool) (c : Nat) (hw : WinIs w b B top sm) (hc : c < 18446744073709551616) :
    Calls Tryd.prog 61 #[.pointer (some ⟨b, 0, none⟩), .int .u64 c] w fun e w' => e = .returned (.bool (B (c % 2048))) ∧ w = w' := by
  obtain ⟨ws, hw, hB⟩ := hw
  rw [← hB _ (Nat.mod_lt _ (by omega))]
  exact win_has w b ws top sm c hw hc

theorem win_set (w : World) (b : Nat) (B : Nat → Bool) (top : Nat) (sm : Bool) (c : Nat) (hw : WinIs w b B top sm) (hc : c < 18446744073709551616) :
    Calls Tryd.prog 63 #[.pointer (some ⟨b, 0, none⟩), .int .u64 c] w fun e w' => e = .returned (.tuple #[]) ∧ WinIs w' b (fun i => decide (i = c % 2048) || B i) top sm ∧ Only [b] w w' := by
  obtain ⟨ws, hw, hB⟩ := hw
  have hi : c % 2048 / 64 < 32 := by omega
  have hcell := win_word hw hi
  have hxl : ws.getD (c % 2048 / 64) 0 < 18446744073709551616 := by
    rw [List.getD_eq_getElem?_getD, List.getElem?_eq_getElem (by rw [hw.2.1]; exact hi)]
    exact hw.2.2.1 _ (List.getElem_mem _)
  have HW := hide hw
  have HB := hide hB
  have hfz := hw.1.frozen
  generalize hx : ws.getD (c % 2048 / 64) 0 = x at hcell hxl
  have hi' : (c : Int) % 2048 / 64 < 32 := by omega
  have HX := hide hxl
  have HXE := hide hx
  clear hw hxl hx hB
  go_enter Tryd.func63, Tryd.ntmps63
  go_wp2_with fail
  go_region
  go_wp2_with fail
  go_end0
  rw [wrap_two_pow (c % 64) (Nat.mod_lt _ (by omega)), u64_or_nat x (2 ^ (c % 64)) HX.out (two_pow_lt _ (Nat.mod_lt _ (by omega)))]
  have hk : c % 64 = c % 2048 % 64 := by omega
  have hv : x ||| 2 ^ (c % 64) < 18446744073709551616 := by have h1 := two_pow_lt (c % 64) (Nat.mod_lt _ (by omega)); exact Nat.or_lt_two_pow (n := 64) HX.out h1
  refine ⟨rfl, ⟨ws.set (c % 2048 / 64) (x ||| 2 ^ (c % 64)), ⟨?_, by rw [List.length_set]; exact HW.out.2.1, fun y hy => ?_, HW.out.2.2.2⟩, fun i hi2 => ?_⟩, ?_⟩
  · have h := (HW.out.1.set_ (c % 2048 / 64) (.int .u64 ((x ||| 2 ^ (c % 64) : Nat) : Int))).drew
    rw [win_setcell ws top sm _ _ (by rw [HW.out.2.1]; exact hi)] at h
    exact h
  · rcases List.mem_or_eq_of_mem_set hy with h | h
    · exact HW.out.2.2.1 y h
    · rw [h]; exact hv
  · simp only []
    rw [← HB.out i hi2, hk, wbit_or ws (c % 2048) i x HXE.out (by rw [HW.out.2.1]; exact hi)]
  · exact ((Only.refl _ _).setCell (.inl (by simp)) _).drew

theorem win_unset (w : World) (b : Nat) (B : Nat → Bool) (top : Nat) (sm : Bool) (c : Nat) (hw : WinIs w b B top sm) (hc : c < 18446744073709551616) :
    Calls Tryd.prog 78 #[.pointer (some ⟨b, 0, none⟩), .int .u64 c] w fun e w' => e = .returned (.tuple #[]) ∧ WinIs w' b (fun i => !decide (i = c % 2048) && B i) top sm ∧ Only [b] w w' := by
  obtain ⟨ws, hw, hB⟩ := hw
  have hi : c % 2048 / 64 < 32 := by omega
  have hcell := win_word hw hi
  have hxl : ws.getD (c % 2048 / 64) 0 < 18446744073709551616 := by
    rw [List.getD_eq_getElem?_getD, List.getElem?_eq_getElem (by rw [hw.2.1]; exact hi)]
    exact hw.2.2.1 _ (List.getElem_mem _)
  have HW := hide hw
  have HB := hide hB
  have hfz := hw.1.frozen
  generalize hx : ws.getD (c % 2048 / 64) 0 = x at hcell hxl
  have hi' : (c : Int) % 2048 / 64 < 32 := by omega
  have HX := hide hxl
  have HXE := hide hx
  clear hw hxl hx hB
  go_enter Tryd.func78, Tryd.ntmps78
  go_wp2_with fail
  go_region
  go_wp2_with fail
  go_end0
  rw [wrap_two_pow (c % 64) (Nat.mod_lt _ (by omega)), u64_andNot_nat x (2 ^ (c % 64)) HX.out (two_pow_lt _ (Nat.mod_lt _ (by omega)))]
  have hk : c % 64 = c % 2048 % 64 := by omega
  have hv : x &&& (18446744073709551615 - 2 ^ (c % 64)) < 18446744073709551616 := Nat.lt_of_le_of_lt Nat.and_le_left HX.out
  refine ⟨rfl, ⟨ws.set (c % 2048 / 64) (x &&& (18446744073709551615 - 2 ^ (c % 64))), ⟨?_, by rw [List.length_set]; exact HW.out.2.1, fun y hy => ?_, HW.out.2.2.2⟩, fun i hi2 => ?_⟩, ?_⟩
  · have h := (HW.out.1.set_ (c % 2048 / 64) (.int .u64 ((x &&& (18446744073709551615 - 2 ^ (c % 64)) : Nat) : Int))).drew
    rw [win_setcell ws top sm _ _ (by rw [HW.out.2.1]; exact hi)] at h
    exact h
  · rcases List.mem_or_eq_of_mem_set hy with h | h
    · exact HW.out.2.2.1 y h
    · rw [h]; exact hv
  · simp only []
    rw [← HB.out i hi2, hk, wbit_andNot ws (c % 2048) i x HXE.out (by rw [HW.out.2.1]; exact hi)]
  · exact ((Only.refl _ _).setCell (.inl (by simp)) _).drew
end
section
open Go.RowKit Go.Deep

theorem WinIs.set_top {w : World} {b : Nat} {B : Nat → Bool} {top : Nat} {sm : Bool} (h : WinIs w b B top sm) (t : Nat) (ht : t < 18446744073709551616) : WinIs (w.setCell ⟨b, 32, none⟩ (.int .u64 (t : Int))) b B t sm := by
  obtain ⟨ws, h, hB⟩ := h
  refine ⟨ws, ⟨?_, h.2.1, h.2.2.1, ht⟩, hB⟩
  have h' := h.1.set_ 32 (.int .u64 (t : Int))
  have e : (winCells ws top sm).toArray.setIfInBounds 32 (.int .u64 (t : Int)) = (winCells ws t sm).toArray := by
    simp [winCells, List.set_append_right, h.2.1]
  rw [e] at h'
  exact h'
theorem WinIs.set_some {w : World} {b : Nat} {B : Nat → Bool} {top : Nat} {sm : Bool} (h : WinIs w b B top sm) (s : Bool) : WinIs (w.setCell ⟨b, 33, none⟩ (.bool s)) b B top s := by
  obtain ⟨ws, h, hB⟩ := h
  refine ⟨ws, ⟨?_, h.2.1, h.2.2.1, h.2.2.2⟩, hB⟩
  have h' := h.1.set_ 33 (.bool s)
  have e : (winCells ws top sm).toArray.setIfInBounds 33 (.bool s) = (winCells ws top s).toArray := by
    simp [winCells, List.set_append_right, h.2.1]
  rw [e] at h'
  exact h'
theorem WinIs.top_ {w : World} {b : Nat} {B : Nat → Bool} {top : Nat} {sm : Bool} (h : WinIs w b B top sm) : w.cell? ⟨b, 32, none⟩ = some (.int .u64 (top : Int)) := by
  obtain ⟨ws, h, _⟩ := h
  exact win_top h
theorem WinIs.some_ {w : World} {b : Nat} {B : Nat → Bool} {top : Nat} {sm : Bool} (h : WinIs w b B top sm) : w.cell? ⟨b, 33, none⟩ = some (.bool sm) := by
  obtain ⟨ws, h, _⟩ := h
  exact win_some h
theorem WinIs.frozen {w : World} {b : Nat} {B : Nat → Bool} {top : Nat} {sm : Bool} (h : WinIs w b B top sm) : ∀ i, w.frozen? ⟨b, i, none⟩ = false := by
  obtain ⟨ws, h, _⟩ := h
  exact h.1.frozen
theorem winCells_size (ws : List Nat) (top : Nat) (sm : Bool) (h : ws.length = 32) : (winCells ws top sm).length = 34 := by simp [winCells, h]
theorem WinIs.isSome {w : World} {b : Nat} {B : Nat → Bool} {top : Nat} {sm : Bool} (h : WinIs w b B top sm) (j : Nat) (hj : j < 34) : (w.cell? ⟨b, j, none⟩).isSome = true := by
  obtain ⟨ws, h, _⟩ := h
  rw [h.1.cell]
  have := winCells_size ws top sm h.2.1
  simp [this, hj]
theorem WinIs.drew {w : World} {b : Nat} {B : Nat → Bool} {top : Nat} {sm : Bool} (h : WinIs w b B top sm) : WinIs w.drew b B top sm := h

/-- What Would tells. -/
def wouldV (B : Nat → Bool) (top : Nat) (sm : Bool) (c : Nat) : Int :=
  if 18446744073709543423 ≤ c then 10 else if sm = false ∨ top < c then 0 else if 2048 ≤ top - c ∨ B (c % 2048) = true then 9 else 0

theorem win_would (w : World) (b : Nat) (B : Nat → Bool) (top : Nat) (sm : Bool) (c : Nat) (hw : WinIs w b B top sm) (hc : c < 18446744073709551616) :
    Calls Tryd.prog 32 #[.pointer (some ⟨b, 0, none⟩), .int .u64 c] w fun e w' => e = .returned (.int .i64 (wouldV B top sm c)) ∧ w = w' := by
  have h1 := hw.top_
  have h2 := hw.some_
  have ht : top < 18446744073709551616 := by obtain ⟨ws, h, _⟩ := hw; exact h.2.2.2
  have HW := hide hw
  clear hw
  by_cases k1 : 18446744073709543423 ≤ c
  · have e : wouldV B top sm c = 10 := by unfold wouldV; rw [if_pos k1]
    rw [e]
    clear e
    have k1' : decide ((18446744073709543423 : Int) ≤ c) = true := by rw [decide_eq_true_iff]; omega
    clear k1
    go_enter Tryd.func32, Tryd.ntmps32
    go_wp2_with fail
    go_ret
    exact ⟨rfl, rfl⟩
  have k1' : decide ((18446744073709543423 : Int) ≤ c) = false := by rw [decide_eq_false_iff_not]; omega
  cases sm with
  | false =>
    have e : wouldV B top false c = 0 := by unfold wouldV; rw [if_neg k1, if_pos (.inl rfl)]
    rw [e]
    clear e k1
    go_enter Tryd.func32, Tryd.ntmps32
    go_wp2_with fail
    go_ret
    exact ⟨rfl, rfl⟩
  | true =>
    by_cases k2 : top < c
    · have e : wouldV B top true c = 0 := by unfold wouldV; rw [if_neg k1, if_pos (.inr k2)]
      rw [e]
      clear e k1
      have k2' : (top : Int) < c := by omega
      go_enter Tryd.func32, Tryd.ntmps32
      go_wp2_with fail
      go_ret
      exact ⟨rfl, rfl⟩
    have k2' : ¬ (top : Int) < c := by omega
    have k2'' : (c : Int) ≤ top := by omega
    by_cases k3 : 2048 ≤ top - c
    · have e : wouldV B top true c = 9 := by unfold wouldV; rw [if_neg k1, if_neg (by simp [k2]), if_pos (.inl k3)]
      rw [e]
      clear e k1 k2
      have k3' : (2048 : Int) ≤ top - c := by omega
      go_enter Tryd.func32, Tryd.ntmps32
      go_wp2_with fail
      go_ret
      exact ⟨rfl, rfl⟩
    have k3' : ¬ (2048 : Int) ≤ top - c := by omega
    cases hB : B (c % 2048) with
    | true =>
      have e : wouldV B top true c = 9 := by unfold wouldV; rw [if_neg k1, if_neg (by simp [k2]), if_pos (.inr hB)]
      rw [e]
      have HBB := hide hB
      clear e k1 k2 k3 hB
      go_enter Tryd.func32, Tryd.ntmps32
      go_wp2_with (go_at_call 61; refine (winis_has _ b B top true c HW.out hc).mono ?_; rw [HBB.out]; rintro e w' ⟨rfl, rfl⟩)
      go_ret
      exact ⟨rfl, rfl⟩
    | false =>
      have e : wouldV B top true c = 0 := by unfold wouldV; rw [if_neg k1, if_neg (by simp [k2]), if_neg (by simp [hB]; omega)]
      rw [e]
      have HBB := hide hB
      clear e k1 k2 k3 hB
      go_enter Tryd.func32, Tryd.ntmps32
      go_wp2_with (go_at_call 61; refine (winis_has _ b B top true c HW.out hc).mono ?_; rw [HBB.out]; rintro e w' ⟨rfl, rfl⟩)
      go_ret
      exact ⟨rfl, rfl⟩
end
section
open Go.RowKit Go.Deep

theorem WinIs.zeroed {w : World} {b : Nat} {B : Nat → Bool} {top : Nat} {sm : Bool} (h : WinIs w b B top sm) : WinIs (w.setCells b 0 (List.replicate 32 (.int .u64 0))) b (fun _ => false) top sm := by
  obtain ⟨ws, h, _⟩ := h
  refine ⟨List.replicate 32 0, ⟨?_, by simp, by intro x hx; rw [List.eq_of_mem_replicate hx]; omega, h.2.2.2⟩, fun i hi => ?_⟩
  · have h' := Blk.setCells (List.replicate 32 (.int .u64 0)) 0 h.1
    have e : wr (winCells ws top sm).toArray 0 (List.replicate 32 (.int .u64 0)) = (winCells (List.replicate 32 0) top sm).toArray := by
      unfold winCells
      rw [wr_prefix _ _ _ (by rw [List.length_map, List.length_replicate, h.2.1]), List.map_replicate]
      rfl
    rw [e] at h'
    exact h'
  · unfold wbit
    have e : (List.replicate 32 0).getD (i / 64) 0 = 0 := by
      rw [List.getD_eq_getElem?_getD, List.getElem?_replicate]
      split <;> rfl
    rw [e, Nat.zero_testBit]

set_option maxRecDepth 100000 in
theorem win_advance_far (w : World) (b : Nat) (B : Nat → Bool) (top : Nat) (sm : Bool) (c : Nat) (hw : WinIs w b B top sm) (hc : c < 18446744073709551616) (h : top < c) (hf : 2048 ≤ c - top) :
    Calls Tryd.prog 62 #[.pointer (some ⟨b, 0, none⟩), .int .u64 c] w fun e w' => e = .returned (.tuple #[]) ∧ WinIs w' b (fun _ => false) c sm ∧ Only [b] w w' := by
  have h1 := hw.top_
  have hfz := hw.frozen
  have ht : top < 18446744073709551616 := by omega
  have hf' : (2048 : Int) ≤ c - top := by omega
  have HC := hide (show ∀ j, j < 32 → (w.cell? ⟨b, 0 + j, none⟩).isSome = true from fun j hj => by rw [Nat.zero_add]; exact hw.isSome j (by omega))
  have HZ := hide hw.zeroed
  have HO := hide (Only.setCells (a := w) (g := b) (S := [b]) (.inl (by simp)) 0 (List.replicate 32 (.int .u64 0)) (Only.refl [b] w))
  clear hw
  go_enter Tryd.func62, Tryd.ntmps62
  go_wp2_with fail
  go_step3
  go_upto_region 1 with (fail)
  refine wp_region_lit ?_
  iterate 12 go_step
  refine wpList_store_part rfl 111 (.tmp 14) (.tmp 12) rfl b 0 (List.replicate 32 (.int .u64 0)).toArray rfl rfl (by kernel_rfl) HC.out (fun j _ => by rw [Nat.zero_add]; exact hfz j) (by simp [Value.oneCell']) ?_
  simp only [List.toList_toArray]
  clear h1 hfz HC
  generalize w.setCells b 0 (List.replicate 32 (.int .u64 0)) = w2 at HZ HO ⊢
  have k1 := HZ.out.top_
  have k2 := HZ.out.frozen
  go_wp2_with fail
  rw [Exit.noGoto_ret]
  refine bodyPost_ret (results_none rfl _ _ _) rfl ?_
  exact ⟨rfl, HZ.out.set_top c hc, HO.out.setCell (.inl (by simp)) _⟩

/-- Behind t: what the blocks hold while the window goes on, step by step. -/
def AdvJ (w : World) (b : Nat) (B : Nat → Bool) (top : Nat) (sm : Bool) (c : Nat) (t : Nat) (w' : World) : Prop :=
  top ≤ t ∧ t ≤ c ∧ Only [b] w w' ∧ ∃ B', WinIs w' b B' t sm ∧ ∀ d, d ≤ t → t - d < 2048 → B' (d % 2048) = (decide (d ≤ top) && B (d % 2048))

theorem AdvJ.step {w wj w3 : World} {b : Nat} {B B' : Nat → Bool} {top t c : Nat} {sm : Bool} (h1 : top ≤ t) (h2 : t < c) (ho : Only [b] w wj)
    (hB : ∀ d, d ≤ t → t - d < 2048 → B' (d % 2048) = (decide (d ≤ top) && B (d % 2048))) (ho3 : Only [b] wj w3)
    (hw3 : WinIs w3 b (fun i => !decide (i = (t + 1) % 2048) && B' i) (t + 1) sm) : AdvJ w b B top sm c (t + 1) w3 := by
  refine ⟨by omega, by omega, ho.trans ho3, _, hw3, fun d hd hd2 => ?_⟩
  by_cases hdt : d = t + 1
  · subst hdt
    rw [decide_eq_true rfl, decide_eq_false (by omega)]
    rfl
  · have hne : d % 2048 ≠ (t + 1) % 2048 := by omega
    simp only [decide_eq_false hne]
    rw [← hB d (by omega) (by omega)]
    rfl

def AdvLoop (w : World) (b : Nat) (B : Nat → Bool) (top : Nat) (sm : Bool) (c : Nat) (a' : Act) (w' : World) : Prop :=
  ∃ (t : Nat) (u2 u3 u4 u5 u6 u7 u8 u9 u10 u11 u12 u13 u14 u15 u16 u17 u18 u19 u20 u21 u22 u23 u24 u25 u26 u27 u28 u29 u30 u31 u32 u33 u34 u35 u36 u37 : Value), a' = ⟨#[.pointer (some ⟨b, 0, none⟩), .int .u64 c, u2, u3, u4, u5, u6, u7, u8, u9, u10, u11, u12, u13, u14, u15, u16, u17, u18, u19, u20, u21, u22, u23, u24, u25, u26, u27, u28, u29, u30, u31, u32, u33, u34, u35, u36, u37], []⟩ ∧ t < c ∧ AdvJ w b B top sm c t w'

set_option maxRecDepth 100000 in
theorem win_advance_near (w : World) (b : Nat) (B : Nat → Bool) (top : Nat) (sm : Bool) (c : Nat) (hw : WinIs w b B top sm) (hc : c < 18446744073709551616) (h : top < c) (hf : c - top < 2048) :
    Calls Tryd.prog 62 #[.pointer (some ⟨b, 0, none⟩), .int .u64 c] w fun e w' => e = .returned (.tuple #[]) ∧ AdvJ w b B top sm c c w' := by
  have h1 := hw.top_
  have ht : top < 18446744073709551616 := by omega
  have hf' : ¬ (2048 : Int) ≤ c - top := by omega
  go_enter Tryd.func62, Tryd.ntmps62
  refine wp_scope_jumps 0 (AdvLoop w b B top sm c) (fun _ w' => c - (intOf ((w'.cell? ⟨b, 32, none⟩).getD undef)).toNat) rfl ?_ ?_
  · have hfz := hw.frozen
    have hB' : ∀ d, d ≤ top → top - d < 2048 → B (d % 2048) = (decide (d ≤ top) && B (d % 2048)) := fun d hd _ => by rw [decide_eq_true hd]; rfl
    have HB := hide hB'
    clear hB'
    have HS := hide (hw.set_top (top + 1) (by omega))
    have hOS : Only [b] w (w.setCell ⟨b, 32, none⟩ (.int .u64 ((top + 1 : Nat) : Int))) := (Only.refl _ _).setCell (.inl (by simp)) _
    have HOS := hide hOS
    have HU := hide (win_unset _ b B (top + 1) sm (top + 1) HS.out (by omega))
    have ec : ((top + 1 : Nat) : Int) = (top : Int) + 1 := by omega
    rw [ec] at HS HOS HU
    clear hOS ec hw

    go_wp2_with fail
    go_step3
    by_cases hlt : top + 1 < c
    · have hlt' : (top : Int) + 1 < c := by omega
      go_wp2_with (go_at_call 78; refine HU.out.mono ?_; rintro e w3 ⟨rfl, hw3, ho3⟩; have k3 := hw3.top_; rw [show ((top + 1 : Nat) : Int) = (top : Int) + 1 by omega] at k3; have HJ := hide (AdvJ.step (c := c) (Nat.le_refl top) (by omega) (Only.refl [b] w) HB.out (HOS.out.trans ho3) hw3); clear hw3 ho3)

      go_step3
      exact ⟨rfl, top + 1, _, _, _, _, _, _, _, _, _, _, _, _, _, _, _, _, _, _, _, _, _, _, _, _, _, _, _, _, _, _, _, _, _, _, _, _, rfl, hlt, HJ.out⟩
    · have hlt' : ¬ (top : Int) + 1 < c := by omega
      go_wp2_with (go_at_call 78; refine HU.out.mono ?_; rintro e w3 ⟨rfl, hw3, ho3⟩; have k3 := hw3.top_; rw [show ((top + 1 : Nat) : Int) = (top : Int) + 1 by omega] at k3; have HJ := hide (AdvJ.step (c := c) (Nat.le_refl top) (by omega) (Only.refl [b] w) HB.out (HOS.out.trans ho3) hw3); clear hw3 ho3)

      simp only [Exit.jump]
      refine bodyPost_end (results_none rfl _ _ _) rfl ?_
      exact ⟨rfl, by have h := HJ.out; rwa [show top + 1 = c by omega] at h⟩
  · rintro a' w' ⟨t, u2, u3, u4, u5, u6, u7, u8, u9, u10, u11, u12, u13, u14, u15, u16, u17, u18, u19, u20, u21, u22, u23, u24, u25, u26, u27, u28, u29, u30, u31, u32, u33, u34, u35, u36, u37, rfl, htc, hle, _, ho, B', hw', hB'⟩
    have k1 := hw'.top_
    have hfz := hw'.frozen
    have htc' : (t : Int) < c := by omega
    have HB := hide hB'
    have HO := hide ho
    clear hB' ho hw h1
    have HS := hide (hw'.set_top (t + 1) (by omega))
    have hOS : Only [b] w' (w'.setCell ⟨b, 32, none⟩ (.int .u64 ((t + 1 : Nat) : Int))) := (Only.refl _ _).setCell (.inl (by simp)) _
    have HOS := hide hOS
    have HU := hide (win_unset _ b B' (t + 1) sm (t + 1) HS.out (by omega))
    have ec : ((t + 1 : Nat) : Int) = (t : Int) + 1 := by omega
    rw [ec] at HS HOS HU
    clear hOS ec hw'

    by_cases hlt : t + 1 < c
    · have hlt' : (t : Int) + 1 < c := by omega
      go_wp2_with (go_at_call 78; refine HU.out.mono ?_; rintro e w3 ⟨rfl, hw3, ho3⟩; have k3 := hw3.top_; rw [show ((t + 1 : Nat) : Int) = (t : Int) + 1 by omega] at k3; have HJ := hide (AdvJ.step (c := c) hle (by omega) HO.out HB.out (HOS.out.trans ho3) hw3); clear hw3 ho3)

      go_step3
      refine ⟨rfl, ⟨t + 1, _, _, _, _, _, _, _, _, _, _, _, _, _, _, _, _, _, _, _, _, _, _, _, _, _, _, _, _, _, _, _, _, _, _, _, _, rfl, hlt, HJ.out⟩, ?_⟩
      simp [intOf, k1, k3]
      omega
    · have hlt' : ¬ (t : Int) + 1 < c := by omega
      go_wp2_with (go_at_call 78; refine HU.out.mono ?_; rintro e w3 ⟨rfl, hw3, ho3⟩; have k3 := hw3.top_; rw [show ((t + 1 : Nat) : Int) = (t : Int) + 1 by omega] at k3; have HJ := hide (AdvJ.step (c := c) hle (by omega) HO.out HB.out (HOS.out.trans ho3) hw3); clear hw3 ho3)

      simp only [Exit.jump]
      refine bodyPost_end (results_none rfl _ _ _) rfl ?_
      exact ⟨rfl, by have h := HJ.out; rwa [show t + 1 = c by omega] at h⟩
end
section
open Go.RowKit Go.Deep

def maxL (L : List Nat) : Nat := L.foldl max 0
theorem maxL_snoc (L : List Nat) (x : Nat) : maxL (L ++ [x]) = max (maxL L) x := by simp [maxL]
theorem le_maxL : ∀ (L : List Nat) (x : Nat), x ∈ L → x ≤ maxL L := by
  refine snoc_ind (fun x h => by cases h) (fun L y ih x h => ?_)
  rw [maxL_snoc]
  rcases List.mem_append.1 h with h | h
  · have := ih x h; omega
  · have : x = y := by simpa using h
    omega
/-- The reference's window by value: its list. -/
def RWin (w : World) (N : List Nat) (v : Value) (L : List Nat) : Prop := ∃ s, v = .agg #[s] ∧ Rd w N s (ints .u64 (nats L))

theorem RWin.only {S : List Nat} {w w' : World} {N : List Nat} {v : Value} {L : List Nat} (h : RWin w N v L) (ho : Only S w w') (hs : ∀ x ∈ S, x ∈ N) : RWin w' N v L := by
  obtain ⟨s, hv, hr⟩ := h
  exact ⟨s, hv, hr.only ho hs⟩

/-- What the document's Would tells of a list. -/
def wouldL (L : List Nat) (c : Nat) : Int :=
  if 18446744073709543423 ≤ c then 10 else if L ≠ [] ∧ (c ∈ L ∨ (c < maxL L ∧ 2048 ≤ maxL L - c)) then 9 else 0
end
section
open Go.RowKit Go.Deep

/-- The window behind b took the counters of L, and no others. -/
def WinSet (w : World) (b : Nat) (L : List Nat) : Prop :=
  ∃ B, WinIs w b B (maxL L) (decide (L ≠ [])) ∧ (∀ c ∈ L, c < 18446744073709543423) ∧ L.Nodup ∧ ∀ d, d ≤ maxL L → maxL L - d < 2048 → B (d % 2048) = decide (d ∈ L)

theorem WinSet.only {S : List Nat} {w w' : World} {b : Nat} {L : List Nat} (h : WinSet w b L) (ho : Only S w w') (hb : b ∉ S) : WinSet w' b L := by
  obtain ⟨B, h, h2⟩ := h
  exact ⟨B, h.only ho hb, h2⟩
theorem WinSet.lt {w : World} {b : Nat} {L : List Nat} (h : WinSet w b L) : b < w.heap.size := by
  obtain ⟨B, h, _⟩ := h
  exact h.lt
theorem WinSet.new {w : World} {b : Nat} (h : WinIs w b (fun _ => false) 0 false) : WinSet w b [] :=
  ⟨_, h, by simp, List.nodup_nil, fun d _ _ => by simp⟩

theorem would_eq {B : Nat → Bool} {L : List Nat} {c : Nat} (hB : ∀ d, d ≤ maxL L → maxL L - d < 2048 → B (d % 2048) = decide (d ∈ L)) : wouldV B (maxL L) (decide (L ≠ [])) c = wouldL L c := by
  unfold wouldV wouldL
  by_cases k1 : 18446744073709543423 ≤ c
  · rw [if_pos k1, if_pos k1]
  rw [if_neg k1, if_neg k1]
  by_cases k2 : L = []
  · rw [if_pos (.inl (by simp [k2])), if_neg (by simp [k2])]
  by_cases k3 : maxL L < c
  · rw [if_pos (.inr k3), if_neg]
    rintro ⟨_, h | ⟨h, _⟩⟩
    · have := le_maxL L c h; omega
    · omega
  rw [if_neg (by simp [k2, k3])]
  by_cases k4 : 2048 ≤ maxL L - c
  · rw [if_pos (.inl k4), if_pos ⟨k2, .inr ⟨by omega, k4⟩⟩]
  · have hb := hB c (by omega) (by omega)
    by_cases k5 : c ∈ L
    · rw [if_pos (.inr (by rw [hb]; simpa using k5)), if_pos ⟨k2, .inl k5⟩]
    · rw [if_neg (by rw [hb]; simp [k4, k5]), if_neg]
      rintro ⟨_, h | ⟨_, h⟩⟩
      · exact k5 h
      · exact k4 h

theorem winset_would (w : World) (b : Nat) (L : List Nat) (c : Nat) (hw : WinSet w b L) (hc : c < 18446744073709551616) :
    Calls Tryd.prog 32 #[.pointer (some ⟨b, 0, none⟩), .int .u64 c] w fun e w' => e = .returned (.int .i64 (wouldL L c)) ∧ w = w' := by
  obtain ⟨B, h, _, _, hB⟩ := hw
  rw [← would_eq hB]
  exact win_would w b B _ _ c h hc

theorem win_advance (w : World) (b : Nat) (B : Nat → Bool) (top : Nat) (sm : Bool) (c : Nat) (hw : WinIs w b B top sm) (hc : c < 18446744073709551616) (h : top < c) :
    Calls Tryd.prog 62 #[.pointer (some ⟨b, 0, none⟩), .int .u64 c] w fun e w' => e = .returned (.tuple #[]) ∧ ∃ B', WinIs w' b B' c sm ∧ (∀ d, d ≤ c → c - d < 2048 → B' (d % 2048) = (decide (d ≤ top) && B (d % 2048))) ∧ Only [b] w w' := by
  rcases Nat.lt_or_ge (c - top) 2048 with hf | hf
  · exact (win_advance_near w b B top sm c hw hc h hf).mono fun e w' ⟨he, _, _, ho, B', hw', hB⟩ => ⟨he, B', hw', hB, ho⟩
  · refine (win_advance_far w b B top sm c hw hc h hf).mono fun e w' ⟨he, hw', ho⟩ => ⟨he, _, hw', fun d hd hd2 => ?_, ho⟩
    rw [decide_eq_false (by omega)]
    rfl

def takeL (L : List Nat) (c : Nat) : List Nat := if wouldL L c = 0 then L ++ [c] else L

theorem would_zero {L : List Nat} {c : Nat} (h : wouldL L c = 0) : c < 18446744073709543423 ∧ c ∉ L ∧ (L = [] ∨ maxL L < c + 2048) := by
  unfold wouldL at h
  split at h
  · cases h
  · split at h
    · cases h
    · rename_i h1 h2
      refine ⟨by omega, fun hm => h2 ⟨(by rintro rfl; cases hm), .inl hm⟩, ?_⟩
      by_cases k : L = []
      · exact .inl k
      · refine .inr ?_
        apply Decidable.byContradiction
        intro h3
        exact h2 ⟨k, .inr ⟨by omega, by omega⟩⟩

theorem winset_step {w' : World} {b : Nat} {L : List Nat} {c : Nat} {B B' : Nat → Bool} (h0 : wouldL L c = 0) (hlt : ∀ d ∈ L, d < 18446744073709543423) (hnd : L.Nodup)
    (hB : ∀ d, d ≤ maxL L → maxL L - d < 2048 → B (d % 2048) = decide (d ∈ L))
    (hB' : ∀ d, d ≤ max (maxL L) c → max (maxL L) c - d < 2048 → B' (d % 2048) = (decide (d ≤ maxL L) && B (d % 2048)))
    (hw : WinIs w' b (fun i => decide (i = c % 2048) || B' i) (max (maxL L) c) true) : WinSet w' b (L ++ [c]) := by
  obtain ⟨h1, h2, h3⟩ := would_zero h0
  refine ⟨_, by rw [maxL_snoc, decide_eq_true (by simp)]; exact hw, fun d hd => ?_, ?_, fun d hd hd2 => ?_⟩
  · rcases List.mem_append.1 hd with hd | hd
    · exact hlt d hd
    · have : d = c := by simpa using hd
      omega
  · rw [List.nodup_append]
    exact ⟨hnd, by simp, fun a ha b hb => by have : b = c := by simpa using hb
                                             rintro rfl; exact h2 (this ▸ ha)⟩
  · rw [maxL_snoc] at hd hd2
    by_cases hdc : d = c
    · subst hdc
      simp
    · have hmc : max (maxL L) c < c + 2048 := by
        rcases h3 with h3 | h3
        · subst h3
          have : maxL [] = 0 := rfl
          omega
        · omega
      have hne : d % 2048 ≠ c % 2048 := by omega
      simp only [decide_eq_false hne, Bool.false_or]
      rw [hB' d hd hd2]
      have hmem : decide (d ∈ L ++ [c]) = decide (d ∈ L) := by rw [decide_eq_decide]; simp [hdc]
      rw [hmem]
      by_cases hdt : d ≤ maxL L
      · rw [decide_eq_true hdt, Bool.true_and, hB d hdt (by omega)]
      · rw [decide_eq_false hdt, Bool.false_and]
        symm
        rw [decide_eq_false_iff_not]
        intro hm
        exact hdt (le_maxL L d hm)

theorem winset_take (w : World) (b : Nat) (L : List Nat) (c : Nat) (hw : WinSet w b L) (hc : c < 18446744073709551616) :
    Calls Tryd.prog 35 #[.pointer (some ⟨b, 0, none⟩), .int .u64 c] w fun e w' => e = .returned (.int .i64 (wouldL L c)) ∧ WinSet w' b (takeL L c) ∧ Only [b] w w' := by
  have HW := hide hw
  obtain ⟨B, hwi, hlt, hnd, hB⟩ := hw
  by_cases k : wouldL L c = 0
  case neg =>
    have hk : (wouldL L c != 0) = true := by rw [bne_iff_ne]; exact k
    have et : takeL L c = L := by unfold takeL; rw [if_neg k]
    rw [et]
    clear hB hlt hnd hwi k et
    generalize hr : wouldL L c = r at hk ⊢
    have HR := hide hr
    clear hr
    go_enter Tryd.func35, Tryd.ntmps35
    go_wp2_with (go_at_call 32; refine (winset_would _ b L c HW.out hc).mono ?_; rw [HR.out]; rintro e w' ⟨rfl, rfl⟩)
    go_ret
    exact ⟨rfl, HW.out, Only.refl _ _⟩
  have et : takeL L c = L ++ [c] := by unfold takeL; rw [if_pos k]
  rw [et, k]
  have K := hide k
  have HSTEP := hide (fun (w' : World) (B' : Nat → Bool) h1 h2 => winset_step (w' := w') (b := b) (B' := B') k hlt hnd hB h1 h2)
  have h1 := hwi.top_
  have HWI := hide hwi
  clear hB hlt hnd hwi k et
  generalize htt : maxL L = t at h1 HSTEP HWI
  clear htt
  by_cases k2 : t < c
  · have k2' : (t : Int) < c := by omega
    have em := hide (show max t c = c by omega)
    go_enter Tryd.func35, Tryd.ntmps35
    go_wp2_with (first
      | (go_at_call 32; refine (winset_would _ b L c HW.out hc).mono ?_; rw [K.out]; rintro e w' ⟨rfl, rfl⟩)
      | (go_at_call 62; refine (win_advance _ b B t _ c HWI.out hc k2).mono ?_; rintro e w2 ⟨rfl, B', hw2, hB2, ho2⟩; have s2 := hw2.some_; have z2 := hw2.frozen 33; have HW2 := hide (hw2.set_some true); have HB2 := hide hB2; have HO2 := hide (ho2.setCell (p := ⟨b, 33, none⟩) (.inl (by simp)) (.bool true)); clear hw2 hB2 ho2)
      | (go_at_call 63; refine (win_set _ b B' c true c HW2.out hc).mono ?_; rintro e w3 ⟨rfl, hw3, ho3⟩))
    go_ret
    refine ⟨rfl, HSTEP.out w3 B' ?_ ?_, HO2.out.trans ho3⟩
    · rw [em.out]; exact HB2.out
    · rw [em.out]; exact hw3
  · have k2' : ¬ (t : Int) < c := by omega
    have em := hide (show max t c = t by omega)
    have s2 := HWI.out.some_
    have z2 := HWI.out.frozen 33
    have HW2 := hide (HWI.out.set_some true)
    have HO2 := hide ((Only.refl [b] w).setCell (p := ⟨b, 33, none⟩) (.inl (by simp)) (.bool true))
    go_enter Tryd.func35, Tryd.ntmps35
    go_wp2_with (first
      | (go_at_call 32; refine (winset_would _ b L c HW.out hc).mono ?_; rw [K.out]; rintro e w' ⟨rfl, rfl⟩)
      | (go_at_call 63; refine (win_set _ b B t true c HW2.out hc).mono ?_; rintro e w3 ⟨rfl, hw3, ho3⟩))
    go_ret
    refine ⟨rfl, HSTEP.out w3 B ?_ ?_, HO2.out.trans ho3⟩
    · rw [em.out]; intro d hd _; rw [decide_eq_true hd]; rfl
    · rw [em.out]; exact hw3
end
end Go.Proofs.YtfipdjlalfpbnaaDoor

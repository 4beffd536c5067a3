/-
  Walks and plain words for WirePrints (texts Mk, Rm). No condition beyond those that each theorem states.
-/
import Derived.Test.YtfmfnfmhknlpbaaDoorP17
namespace Go.Proofs.YtfmfnfmhknlpbaaDoor
section
open Go.RowKit Go.Deep

def MakePost (r : ByteArray) (w : World) (e : Ending) (w' : World) : Prop := e = .returned (.string r) ∧ Only [] w w'
theorem makepost {r s : ByteArray} {w w' : World} (h : r = s) (ho : Only [] w w') : MakePost r w (.returned (.string s)) w' := by subst h; exact ⟨rfl, ho⟩
theorem fits_num {k : Int} (h5 : 5 ≤ k) {l : List ByteArray} (hf : fitsV k l.length = true) (hn : numberedV k = true) : l ≠ [] := by
  rintro rfl
  have h : k = 8 ∨ k = 10 := by
    simp only [numberedV, Bool.or_eq_true, beq_iff_eq] at hn
    omega
  rcases h with rfl | rfl <;> simp [fitsV, leastV, mostV] at hf
theorem fits_six {l : List ByteArray} (hf : fitsV 6 l.length = true) : ∃ p q, l = [p, q] := by
  have hl : l.length = 2 := by
    simp only [fitsV, leastV, mostV] at hf
    simp at hf
    omega
  match l, hl with
  | [a, b], _ => exact ⟨a, b, rfl⟩

/-- join, at what Make gives it. -/
theorem join_all (k : Int) (hr : 1 ≤ k ∧ k ≤ 11) (n : Nat) (hn : n < 18446744073709551616) (bv lv : Value) (b : List UInt8) (l : List ByteArray) (hf : fitsV k l.length = true) (hs : sumL l ≤ 65536) (h4 : k = 4 → b.length ≤ 65536) (w : World)
    (hb : Rd w [] bv (ints .u8 (byts b))) (hv : Rd w [] lv (strs l)) (htab : Tab w) :
    Calls Tryd.prog 60 #[.int .u8 ((letU k).toNat : Nat), .int .i64 k, .int .u64 n, bv, lv] w (StrPost (txtL k n b (sortV k l)) w) := by
  have hj := join_le l
  by_cases hk : k ≤ 4
  · rw [sort_not6 (by omega)]
    exact join_leaf k hr.1 hk n hn bv lv b l w (fun h => ⟨by have := h4 h; omega, hb⟩) htab
  · by_cases h6 : k = 6
    · subst h6
      obtain ⟨p, q, rfl⟩ := fits_six hf
      simp only [sumL] at hs
      exact join_dh n bv lv b p q (by omega) w hv
    · rw [sort_not6 h6]
      exact join_gen k (by omega) hr.2 h6 n hn bv lv b l (fits_num (by omega) hf) (by omega) w hv htab

set_option maxRecDepth 100000 in
set_option maxHeartbeats 12800000 in
theorem Make_any (k : Int) (hk : (Lit.int .i64 k).wf = true) (n : Nat) (hn : n < 18446744073709551616) (bv lv : Value) (b : List UInt8) (l : List ByteArray) (hsz : ∀ p ∈ l, p.size ≤ maxLen) (w : World)
    (hb : Rd w [] bv (ints .u8 (byts b))) (hv : Rd w [] lv (strs l)) (htab : Tab w) :
    Calls Tryd.prog 11 #[.int .i64 k, .int .u64 n, bv, lv] w (MakePost (makeV k n b l) w) := by
  obtain ⟨A, cap, rfl, hc1, hc2⟩ := hv.form
  obtain ⟨A', cap', rfl, hc1', hc2'⟩ := hb.formb
  unfold maxLen at hc2 hc2' hsz
  rw [strs_length] at hv hc1 ⊢
  by_cases hr : 1 ≤ k ∧ k ≤ 11
  case neg =>
    have HM := hide (make_kind (n := n) (b := b) (l := l) hr)
    have e0 : (((letU k).toNat : Nat) : Int) = 0 := by rw [let_zero hr]; rfl
    have HLT := hide (show ∀ W, Calls Tryd.prog 56 #[.int .i64 k] W fun e w' => e = .returned (.int .u8 0) ∧ Only [] W w' from fun W => by have h := letter_of k hk W; rw [e0] at h; exact h)
    clear hb hv htab hk hr e0 hsz hn
    go_enter Tryd.func11, Tryd.ntmps11
    go_wp2_with (first | (go_at_call 56; refine (HLT.out _).mono ?_; rintro e w1 ⟨rfl, ho⟩; have HC := hide ho; clear ho))
    go_ret
    exact makepost HM.out HC.out
  have HR := hide hr
  have hlp := let_pos hr
  have HLT := hide (letter_of k hk)
  have HJ := hide (fun hf hs h4 W (ho : Only [] w W) => join_all k hr n hn _ _ b l hf hs h4 W (hb.only ho (by simp)) (hv.only ho (by simp)) (htab.only ho (by simp)))
  unfold StrPost at HJ
  obtain ⟨c, hcd⟩ : ∃ c : Int, c = ((letU k).toNat : Nat) := ⟨_, rfl⟩
  have hc0 : (c == 0) = false := by rw [beq_eq_false_iff_ne, hcd]; exact hlp
  rw [← hcd] at HLT HJ
  obtain ⟨m, hm⟩ : ∃ m, m = l.length := ⟨_, rfl⟩
  have HM := hide hm
  rw [← hm] at hv hc1 HJ ⊢
  have HV := hide hv
  have HSZ := hide hsz
  have hkw := hk
  clear hb hv htab hr hk hsz hn hlp hcd hm
  by_cases ha : numberedV k = true ∧ allowedV k n = false
  · obtain ⟨hnb, hal⟩ := ha
    have HMK := hide (make_allow (b := b) (l := l) hnb hal)
    have HNB := hide hnb
    have HAL := hide hal
    clear hnb hal
    go_enter Tryd.func11, Tryd.ntmps11
    go_wp2_with (first | (go_at_call 56; refine (HLT.out _).mono ?_; rintro e w1 ⟨rfl, ho⟩; have HC := hide ho; clear ho) | (go_at_call 57; refine (numbered_any _ _).mono ?_; rintro e w2 ⟨rfl, rfl⟩; rw [HNB.out]) | (go_at_call 58; refine (allowed_any _ _ _).mono ?_; rintro e w2 ⟨rfl, rfl⟩; rw [HAL.out]))
    go_ret
    exact makepost HMK.out HC.out
  have HALW := hide (show numberedV k = true → allowedV k n = true by
    intro h
    cases h2 : allowedV k n with
    | true => rfl
    | false => exact absurd ⟨h, h2⟩ ha)
  clear ha
  cases hft : fitsV k m with
  | false =>
    have HMK := hide (make_fits (n := n) (b := b) (l := l) (k := k) (by rw [← HM.out]; exact hft))
    have HFT := hide hft
    cases hnb : numberedV k with
    | true =>
      have HNB := hide hnb
      have HAL := hide (HALW.out hnb)
      clear hnb hft
      go_enter Tryd.func11, Tryd.ntmps11
      go_wp2_with (first | (go_at_call 56; refine (HLT.out _).mono ?_; rintro e w1 ⟨rfl, ho⟩; have HC := hide ho; clear ho) | (go_at_call 57; refine (numbered_any _ _).mono ?_; rintro e w2 ⟨rfl, rfl⟩; rw [HNB.out]) | (go_at_call 58; refine (allowed_any _ _ _).mono ?_; rintro e w2 ⟨rfl, rfl⟩; rw [HAL.out]) | (go_at_call 59; refine (fits_any _ _ _).mono ?_; rintro e w2 ⟨rfl, rfl⟩; rw [HFT.out]))
      go_ret
      exact makepost HMK.out HC.out
    | false =>
      have HNB := hide hnb
      clear hnb hft
      go_enter Tryd.func11, Tryd.ntmps11
      go_wp2_with (first | (go_at_call 56; refine (HLT.out _).mono ?_; rintro e w1 ⟨rfl, ho⟩; have HC := hide ho; clear ho) | (go_at_call 57; refine (numbered_any _ _).mono ?_; rintro e w2 ⟨rfl, rfl⟩; rw [HNB.out]) | (go_at_call 59; refine (fits_any _ _ _).mono ?_; rintro e w2 ⟨rfl, rfl⟩; rw [HFT.out]))
      go_ret
      exact makepost HMK.out HC.out
  | true =>
    have HFT := hide hft
    clear hft
    by_cases hbg : ∃ i, i < l.length ∧ 65536 < (l.getD i ByteArray.empty).size
    · obtain ⟨i0, hi0, hbg⟩ := hbg
      have hz0 : kindT (l.getD i0 ByteArray.empty) = 0 := by rw [kind_zero]; unfold parseV; rw [if_pos hbg]; rfl
      have HMK := hide (make_part (k := k) (n := n) (b := b) hi0 hz0)
      have HI0 := hide (show i0 < m by rw [HM.out]; exact hi0)
      have HZ0 := hide hz0
      have hk4 : (k == 4) = false := by
        rw [beq_eq_false_iff_ne]
        intro e
        have h := (fits4 (k := k) (by omega) (by omega) l).1 (by rw [← HM.out]; exact HFT.out)
        rw [h] at hi0
        exact absurd hi0 (Nat.not_lt_zero _)
      clear hz0 hi0 hbg
      cases hnb : numberedV k
      all_goals
        have HNB := hide hnb
        first | (have HAL := hide (HALW.out hnb)) | skip
        clear hnb
        go_enter Tryd.func11, Tryd.ntmps11
        go_wp2_with (first | (go_at_call 56; refine (HLT.out _).mono ?_; rintro e w1 ⟨rfl, ho⟩; have HC := hide ho; clear ho) | (go_at_call 57; refine (numbered_any _ _).mono ?_; rintro e w2 ⟨rfl, rfl⟩; rw [HNB.out]) | (go_at_call 58; refine (allowed_any _ _ _).mono ?_; rintro e w2 ⟨rfl, rfl⟩; rw [HAL.out]) | (go_at_call 59; refine (fits_any _ _ _).mono ?_; rintro e w2 ⟨rfl, rfl⟩; rw [HFT.out]))
        go_loopw [39, 10] (fun i s wr => ∃ (j : Nat) (x : Int), j ≤ m ∧ i = .int .i64 j ∧ s = .int .i64 x ∧ Hid (Only [] w wr)) (fun i _ _ => m - (intOf i).toNat)
        case atStart => exact ⟨0, 0, Nat.zero_le _, rfl, rfl, HC⟩
        case round =>
          clear HC
          obtain ⟨j, x, hj, rfl, rfl, HC⟩ := hrel
          by_cases hlt : j < m
          · have hltI : (j : Int) < m := by omega
            have hjl : j < l.length := by rw [← HM.out]; exact hlt
            obtain ⟨g, o, rfl, _, hg, hcell⟩ := (HV.out.only HC.out (by simp)).at_.2.2.2 j (.string (l.getD j ByteArray.empty)) (by simp [strs, List.getElem?_eq_getElem hjl])
            generalize l.getD j ByteArray.empty = part at *
            clear hjl
            go_wp2_with fail
            · go_ret
              exact makepost HMK.out HC.out
            · go_roundw
              case rel => exact ⟨j + 1, _, by omega, by go_num, rfl, HC⟩
              case measure => simp [intOf]; omega
          · have hge : ¬ (j : Int) < m := by omega
            clear hlt hj
            go_wp2_with fail
            go_loopw [60] (fun i wr => ∃ j : Nat, j ≤ m ∧ i = .int .i64 j ∧ Hid (∀ i, i < j → kindT (l.getD i ByteArray.empty) ≠ 0) ∧ Hid (Only [] w wr)) (fun i _ => m - (intOf i).toNat)
            case atStart => exact ⟨0, Nat.zero_le _, rfl, hide (fun i h => absurd h (Nat.not_lt_zero i)), HC⟩
            case round =>
              clear HC
              obtain ⟨j, hj, rfl, HK, HC⟩ := hrel
              by_cases hlt : j < m
              · have hltI : (j : Int) < m := by omega
                have hjl : j < l.length := by rw [← HM.out]; exact hlt
                obtain ⟨g, o, rfl, _, hg, hcell⟩ := (HV.out.only HC.out (by simp)).at_.2.2.2 j (.string (l.getD j ByteArray.empty)) (by simp [strs, List.getElem?_eq_getElem hjl])
                have HKD := hide (fun W => Kind_any W (l.getD j ByteArray.empty) (by have := HSZ.out (l.getD j ByteArray.empty) (by rw [List.getD_eq_getElem?_getD, List.getElem?_eq_getElem hjl]; exact List.getElem_mem hjl); unfold maxLen; omega))
                unfold KindPost at HKD
                by_cases hz : kindT (l.getD j ByteArray.empty) = 0
                · rw [hz] at HKD
                  generalize l.getD j ByteArray.empty = part at *
                  clear hz hjl
                  go_wp2_with (go_at_call 16; refine (HKD.out _).mono ?_; rintro e w5 ⟨rfl, ho⟩; have HC := hide (HC.out.trans ho); clear ho)
                  go_ret
                  exact makepost HMK.out HC.out
                · have HZ := hide (show ∀ i, i < j + 1 → kindT (l.getD i ByteArray.empty) ≠ 0 from fun i hi => (Nat.lt_or_eq_of_le (Nat.le_of_lt_succ hi)).elim (HK.out i) (fun h => by rw [h]; exact hz))
                  have hzb : (kindT (l.getD j ByteArray.empty) == 0) = false := by rw [beq_eq_false_iff_ne]; exact hz
                  generalize l.getD j ByteArray.empty = part at *
                  generalize kindT part = kp at *
                  clear hz hjl
                  go_wp2_with (go_at_call 16; refine (HKD.out _).mono ?_; rintro e w5 ⟨rfl, ho⟩; have HC := hide (HC.out.trans ho); clear ho)
                  go_roundw
                  case rel => exact ⟨j + 1, by omega, by go_num, HZ, HC⟩
                  case measure => simp [intOf]; omega
              · exact absurd HZ0.out (HK.out i0 (by have := HI0.out; omega))
    have HSM := hide (show ∀ i, i < l.length → (l.getD i ByteArray.empty).size ≤ 65536 from fun i hi => by apply Decidable.byContradiction; intro h; exact hbg ⟨i, hi, by omega⟩)
    clear hbg
    cases hnb : numberedV k
    all_goals
      have HNB := hide hnb
      first | (have HAL := hide (HALW.out hnb)) | skip
      clear hnb
      go_enter Tryd.func11, Tryd.ntmps11
      go_wp2_with (first | (go_at_call 56; refine (HLT.out _).mono ?_; rintro e w1 ⟨rfl, ho⟩; have HC := hide ho; clear ho) | (go_at_call 57; refine (numbered_any _ _).mono ?_; rintro e w2 ⟨rfl, rfl⟩; rw [HNB.out]) | (go_at_call 58; refine (allowed_any _ _ _).mono ?_; rintro e w2 ⟨rfl, rfl⟩; rw [HAL.out]) | (go_at_call 59; refine (fits_any _ _ _).mono ?_; rintro e w2 ⟨rfl, rfl⟩; rw [HFT.out]))
      go_loopw [39, 10] (fun i s wr => ∃ j : Nat, j ≤ m ∧ i = .int .i64 j ∧ s = .int .i64 (sumL (l.take j) : Nat) ∧ sumL (l.take j) ≤ 65536 ∧ Hid (Only [] w wr)) (fun i _ _ => m - (intOf i).toNat)
      case atStart => exact ⟨0, Nat.zero_le _, rfl, rfl, Nat.zero_le _, HC⟩
      case round =>
        clear HC
        obtain ⟨j, hj, rfl, rfl, hsum, HC⟩ := hrel
        by_cases hlt : j < m
        · have hltI : (j : Int) < m := by omega
          have hjl : j < l.length := by rw [← HM.out]; exact hlt
          have HJS := hide (sumL_take l j hjl)
          obtain ⟨g, o, rfl, _, hg, hcell⟩ := (HV.out.only HC.out (by simp)).at_.2.2.2 j (.string (l.getD j ByteArray.empty)) (by simp [strs, List.getElem?_eq_getElem hjl])
          have hps := HSM.out j hjl
          obtain ⟨u, hu⟩ : ∃ u, u = sumL (l.take j) := ⟨_, rfl⟩
          have HU := hide hu
          rw [← hu] at hsum ⊢
          clear hu
          generalize l.getD j ByteArray.empty = part at *
          by_cases hbig : 65536 < u + (part.size + 1)
          · have hbigI : (65536 : Int) < (u : Int) + ((part.size : Int) + 1) := by omega
            have HMK := hide (make_big (k := k) (n := n) (b := b) (l := l) (by have := sumL_mono l (j + 1); have := HJS.out; have := HU.out; omega))
            clear hbig hjl
            go_wp2_with fail
            go_ret
            exact makepost HMK.out HC.out
          · have hbigI : ¬ (65536 : Int) < (u : Int) + ((part.size : Int) + 1) := by omega
            clear hbig hjl
            have hle : u + (part.size + 1) ≤ 65536 := by omega
            go_wp2_with fail
            go_roundw
            case rel => exact ⟨j + 1, by omega, by go_num, by rw [HJS.out, ← HU.out]; go_num, by rw [HJS.out, ← HU.out]; exact hle, HC⟩
            case measure => simp [intOf]; omega
        · have hge : ¬ (j : Int) < m := by omega
          have HSUM := hide (show sumL l ≤ 65536 by have h := hsum; rw [List.take_of_length_le (by have := HM.out; omega)] at h; exact h)
          clear hlt hj hsum
          by_cases hd : k = 4 ∧ 65536 < b.length
          · obtain ⟨rfl, hd⟩ := hd
            have HMK := hide (make_data (n := n) (l := l) (rfl : (4 : Int) = 4) hd)
            have hdI : (65536 : Int) < b.length := by omega
            clear hd
            go_wp2_with fail
            go_ret
            exact makepost HMK.out HC.out
          have HD := hide (show k = 4 → b.length ≤ 65536 from fun h => by apply Decidable.byContradiction; intro h2; exact hd ⟨h, by omega⟩)
          have hcut : ((k == 4) = true ∧ ¬ (65536 : Int) < b.length) ∨ (k == 4) = false := by
            by_cases h : k = 4
            · exact .inl ⟨by rw [beq_iff_eq]; exact h, by have := HD.out h; omega⟩
            · exact .inr (by rw [beq_eq_false_iff_ne]; exact h)
          clear hd
          rcases hcut with ⟨hk4, hbl⟩ | hk4
          all_goals
            go_wp2_with fail
            go_loopw [60] (fun i wr => ∃ j : Nat, j ≤ m ∧ i = .int .i64 j ∧ Hid (∀ i, i < j → kindT (l.getD i ByteArray.empty) ≠ 0) ∧ Hid (Only [] w wr)) (fun i _ => m - (intOf i).toNat)
            case atStart => exact ⟨0, Nat.zero_le _, rfl, hide (fun i h => absurd h (Nat.not_lt_zero i)), HC⟩
            case round =>
              clear HC
              obtain ⟨j, hj, rfl, HK, HC⟩ := hrel
              by_cases hlt : j < m
              · have hltI : (j : Int) < m := by omega
                have hjl : j < l.length := by rw [← HM.out]; exact hlt
                obtain ⟨g, o, rfl, _, hg, hcell⟩ := (HV.out.only HC.out (by simp)).at_.2.2.2 j (.string (l.getD j ByteArray.empty)) (by simp [strs, List.getElem?_eq_getElem hjl])
                have HKD := hide (fun W => Kind_any W (l.getD j ByteArray.empty) (by unfold maxLen; have := size_le l j hjl; have := HSUM.out; omega))
                unfold KindPost at HKD
                by_cases hz : kindT (l.getD j ByteArray.empty) = 0
                · have HMK := hide (make_part (k := k) (n := n) (b := b) hjl hz)
                  rw [hz] at HKD
                  generalize l.getD j ByteArray.empty = part at *
                  clear hz hjl
                  go_wp2_with (go_at_call 16; refine (HKD.out _).mono ?_; rintro e w5 ⟨rfl, ho⟩; have HC := hide (HC.out.trans ho); clear ho)
                  go_ret
                  exact makepost HMK.out HC.out
                · have HZ := hide (show ∀ i, i < j + 1 → kindT (l.getD i ByteArray.empty) ≠ 0 from fun i hi => (Nat.lt_or_eq_of_le (Nat.le_of_lt_succ hi)).elim (HK.out i) (fun h => by rw [h]; exact hz))
                  have hzb : (kindT (l.getD j ByteArray.empty) == 0) = false := by rw [beq_eq_false_iff_ne]; exact hz
                  generalize hpt : l.getD j ByteArray.empty = part at *
                  generalize kindT part = kp at *
                  have HPT := hide hpt
                  clear hz hjl hpt
                  go_wp2_with (go_at_call 16; refine (HKD.out _).mono ?_; rintro e w5 ⟨rfl, ho⟩; have HC := hide (HC.out.trans ho); clear ho)
                  go_roundw
                  case rel => exact ⟨j + 1, by omega, by go_num, HZ, HC⟩
                  case measure => simp [intOf]; omega
              · have hge : ¬ (j : Int) < m := by omega
                have HKA := hide (show ∀ i, i < l.length → kindT (l.getD i ByteArray.empty) ≠ 0 from fun i hi => HK.out i (by have := HM.out; omega))
                have HJ2 := hide (fun W ho => HJ.out HFT.out HSUM.out HD.out W ho)
                by_cases hlong : 65536 < (txtL k n b (sortV k l)).length
                · have HMK := hide (make_long hlong)
                  have hlongI : (65536 : Int) < (⟨(txtL k n b (sortV k l)).toArray⟩ : ByteArray).size := by show (65536 : Int) < ((txtL k n b (sortV k l)).toArray.size : Nat); rw [List.size_toArray]; omega
                  generalize (⟨(txtL k n b (sortV k l)).toArray⟩ : ByteArray) = txt at *
                  clear hlong
                  go_wp2_with (go_at_call 60; refine (HJ2.out _ HC.out).mono ?_; rintro e w5 ⟨rfl, ho⟩; have HC := hide (HC.out.trans ho); clear ho)
                  go_ret
                  exact makepost HMK.out HC.out
                · have HMK := hide (make_is (b := b) HR.out HALW.out (by rw [← HM.out]; exact HFT.out) HKA.out (by omega))
                  have hlongI : ¬ (65536 : Int) < (⟨(txtL k n b (sortV k l)).toArray⟩ : ByteArray).size := by show ¬ (65536 : Int) < ((txtL k n b (sortV k l)).toArray.size : Nat); rw [List.size_toArray]; omega
                  unfold bytesOf at HMK
                  generalize (⟨(txtL k n b (sortV k l)).toArray⟩ : ByteArray) = txt at *
                  clear hlong
                  go_wp2_with (go_at_call 60; refine (HJ2.out _ HC.out).mono ?_; rintro e w5 ⟨rfl, ho⟩; have HC := hide (HC.out.trans ho); clear ho)
                  go_ret
                  exact makepost HMK.out HC.out
end
section
open Go.RowKit Go.Deep

theorem cat_bytes (a b : List UInt8) : bytesOf a ++ bytesOf b = bytesOf (a ++ b) := by
  apply ByteArray.ext
  rw [ByteArray.data_append]
  show a.toArray ++ b.toArray = (a ++ b).toArray
  simp
/-- What stands ahead of the parts, as the reference writes it. -/
def headR (k : Int) (n : Nat) (l : List ByteArray) : List UInt8 := letU k :: 40 :: (if numberedV k = true then Lib.decDigits n ++ (if l = [] then [] else [44]) else [])
theorem txt_headR (k : Int) (n : Nat) (b : List UInt8) (l : List ByteArray) (h5 : 5 ≤ k) : txtL k n b l = headR k n l ++ joinL l ++ [41] := by
  unfold txtL headR
  rw [if_neg (by omega), if_neg (by omega), if_neg (by omega)]
  simp
theorem headR_len (k : Int) (n : Nat) (hn : n < 18446744073709551616) (l : List ByteArray) : (headR k n l).length ≤ 40 := by
  unfold headR
  have := dec_len n hn
  split
  · split <;> simp <;> omega
  · simp
theorem part_size {p : ByteArray} (h : (parseV p).isSome = true) : p.size ≤ 65536 := by
  obtain ⟨nd, h⟩ := Option.isSome_iff_exists.1 h
  exact parse_size h
theorem joinL_bound (l : List ByteArray) (j : Nat) : (∀ i, i < j → (parseV (l.getD i ByteArray.empty)).isSome = true) → j ≤ l.length → (joinL (l.take j)).length ≤ j * 65537 := by
  induction j with
  | zero => intro _ _; simp [joinL]
  | succ j ih =>
    intro h hj
    rw [joinL_take l j (by omega)]
    have h1 := ih (fun i hi => h i (by omega)) (by omega)
    have h2 := part_size (h j (by omega))
    rw [List.length_append, List.length_append]
    have h3 : (l.getD j ByteArray.empty).data.toList.length = (l.getD j ByteArray.empty).size := rfl
    have h4 : (if j = 0 then ([] : List UInt8) else [44]).length ≤ 1 := by split <;> simp
    omega
section plain
variable {k : Int} {n : Nat} {b : List UInt8} {l : List ByteArray}
theorem all_sort (hp : ∀ i, i < (sortV k l).length → (parseV ((sortV k l).getD i ByteArray.empty)).isSome = true) : ∀ p ∈ sortV k l, (parseV p).isSome = true := by
  intro p hp2
  obtain ⟨j, hj, rfl⟩ := List.mem_iff_getElem.1 hp2
  have h := hp j hj
  rwa [List.getD_eq_getElem?_getD, List.getElem?_eq_getElem hj, Option.getD_some] at h
theorem makeR_yes (h : 1 ≤ k ∧ k ≤ 11) (hn : n < 18446744073709551616) (h4 : k ≤ 4 → l = []) (hp : ∀ i, i < (sortV k l).length → (parseV ((sortV k l).getD i ByteArray.empty)).isSome = true)
    (hs : (parseV (bytesOf (txtL k n b (sortV k l)))).isSome = true) : makeV k n b l = bytesOf (txtL k n b (sortV k l)) := by
  have hall := all_sort hp
  rw [parse_txt k n b (sortV k l) h.1 h.2 hn hall (fun hk => by rw [h4 hk]; exact sort_not6 (by omega) [])] at hs
  by_cases hok : okV k n (sortV k l) ∧ (txtL k n b (sortV k l)).length ≤ 65536
  · exact if_pos ⟨h.1, h.2, hok.1.1, by rw [← sort_len k l]; exact hok.1.2.1, fun p hp2 => hall p ((sort_mem k l p).2 hp2), hok.2⟩
  · rw [if_neg hok] at hs; cases hs
theorem makeR_no (h : 1 ≤ k ∧ k ≤ 11) (hn : n < 18446744073709551616) (h4 : k ≤ 4 → l = []) (hp : ∀ i, i < (sortV k l).length → (parseV ((sortV k l).getD i ByteArray.empty)).isSome = true)
    (hs : (parseV (bytesOf (txtL k n b (sortV k l)))).isSome = false) : makeV k n b l = ByteArray.empty := by
  have hall := all_sort hp
  rw [parse_txt k n b (sortV k l) h.1 h.2 hn hall (fun hk => by rw [h4 hk]; exact sort_not6 (by omega) [])] at hs
  by_cases hok : okV k n (sortV k l) ∧ (txtL k n b (sortV k l)).length ≤ 65536
  · rw [if_pos hok] at hs; cases hs
  · exact make_no (fun ⟨_, _, c1, c2, _, c3⟩ => hok ⟨⟨c1, by rw [sort_len]; exact c2, sort_right k l⟩, c3⟩)
theorem makeR_part {i : Nat} (hi : i < (sortV k l).length) (h : (parseV ((sortV k l).getD i ByteArray.empty)).isSome = false) : makeV k n b l = ByteArray.empty := make_no (by
  rintro ⟨_, _, _, _, hp, _⟩
  have := hp ((sortV k l).getD i ByteArray.empty) ((sort_mem k l _).1 (by rw [List.getD_eq_getElem?_getD, List.getElem?_eq_getElem hi]; exact List.getElem_mem hi))
  rw [h] at this
  exact Bool.noConfusion this)
theorem makeR_leaf (h1 : 1 ≤ k) (h : k ≤ 4) (hl : l ≠ []) : makeV k n b l = ByteArray.empty := make_no (fun ⟨_, _, _, hf, _, _⟩ => hl ((fits4 h1 h l).1 hf))
end plain
theorem txt_small (k : Int) (n : Nat) (hn : n < 18446744073709551616) (b : List UInt8) (h4 : k ≤ 4) (hb : b.length ≤ 100000) : (bytesOf (txtL k n b [])).size ≤ 300000 := by
  rw [bytesOf_size]
  unfold txtL
  have := dec_len n hn
  have := hexS_length b
  rw [List.length_cons]
  split
  · omega
  · split
    · omega
    · first | (rw [if_pos h4]; simp; done) | simp
set_option maxRecDepth 100000 in
set_option maxHeartbeats 12800000 in
theorem makeR_short (k : Int) (h1 : 1 ≤ k) (h4 : k ≤ 4) (n : Nat) (hn : n < 18446744073709551616) (bv lv : Value) (b : List UInt8) (hbl : b.length ≤ 100000) (l : List ByteArray) (w : World)
    (hb : Rd w [] bv (ints .u8 (byts b))) (hv : Rd w [] lv (strs l)) :
    Calls Tryd.prog 18 #[.int .i64 k, .int .u64 n, bv, lv] w (MakePost (makeV k n b l) w) := by
  obtain ⟨A, cap, rfl, hc1, hc2⟩ := hv.form
  unfold maxLen at hc2
  rw [strs_length] at hv hc1 ⊢
  have HPR := hide (fun W => print_ref n hn W)
  have HHX := hide (hex_ref w [] _ b hb (by omega))
  have HLX := hide (hexS_length b)
  have HLD := hide (dec_len n hn)
  have HBL := hide hbl
  unfold StrPost at HPR HHX
  have hexI : ¬ 9223372036854775807 < 1 + (hexS b).length := by have := HLX.out; omega
  have decI : ¬ 9223372036854775807 < 1 + (Lib.decDigits n).length := by have := HLD.out; omega
  by_cases hl : l = []
  · subst hl
    have HY := hide (fun (h : (parseV (bytesOf (txtL k n b (sortV k [])))).isSome = true) => makeR_yes (n := n) (b := b) (l := []) ⟨h1, by omega⟩ hn (fun _ => rfl) (by rw [sort_not6 (by omega)]; intro i hi; exact absurd hi (Nat.not_lt_zero i)) h)
    have HNO := hide (fun (h : (parseV (bytesOf (txtL k n b (sortV k [])))).isSome = false) => makeR_no (n := n) (b := b) (l := []) ⟨h1, by omega⟩ hn (fun _ => rfl) (by rw [sort_not6 (by omega)]; intro i hi; exact absurd hi (Nat.not_lt_zero i)) h)
    rw [sort_not6 (by omega)] at HY HNO
    have HIS := hide (fun W => isR_all W (bytesOf (txtL k n b [])) (by have := txt_small k n hn b h4 hbl; unfold maxLen; omega))
    unfold RetB at HIS
    have HC := hide (Only.refl [] w)
    clear hb hv hn hbl
    rcases (show k = 1 ∨ k = 2 ∨ k = 3 ∨ k = 4 by omega) with rfl | rfl | rfl | rfl
    · have hsl : ∀ W, (Instr.sliceAt 9 (.string ⟨#[48, 97, 110, 120, 112, 100, 104, 107, 109, 115, 108]⟩) (some (.int .i64 0)) (some (.int .i64 1)) none).run Tryd.prog W = .ok (.string ⟨#[48]⟩) W := fun W => by kernel_rfl
      have htt : bytesOf (txtL 1 n b []) = ⟨#[48]⟩ := rfl
      rw [htt] at HY HNO HIS
      rcases Bool.eq_false_or_eq_true (parseV ⟨#[48]⟩).isSome with hq | hq
      all_goals
        rw [hq] at HIS HY HNO
        first
          | (have HM := hide (HY.out rfl)) | (have HM := hide (HNO.out rfl))
        clear hq HY HNO
        go_enter Tryd.func18, Tryd.ntmps18
        go_wp2_with (first | (go_at_call 12; refine (HIS.out _).mono ?_; rintro e w2 ⟨rfl, ho⟩; have HC := hide (HC.out.trans ho); clear ho))
        go_ret
        exact makepost HM.out HC.out
    · have hsl : ∀ W, (Instr.sliceAt 9 (.string ⟨#[48, 97, 110, 120, 112, 100, 104, 107, 109, 115, 108]⟩) (some (.int .i64 1)) (some (.int .i64 2)) none).run Tryd.prog W = .ok (.string ⟨#[97]⟩) W := fun W => by kernel_rfl
      have hcat : (⟨#[97]⟩ : ByteArray) ++ ⟨(Lib.decDigits n).toArray⟩ = bytesOf (txtL 2 n b []) := cat_bytes [97] (Lib.decDigits n)
      generalize bytesOf (txtL 2 n b []) = T at *
      rcases Bool.eq_false_or_eq_true (parseV T).isSome with hq | hq
      all_goals
        rw [hq] at HIS HY HNO
        first
          | (have HM := hide (HY.out rfl)) | (have HM := hide (HNO.out rfl))
        clear hq HY HNO
        go_enter Tryd.func18, Tryd.ntmps18
        go_wp2_with (first | (go_at_call 62; refine (HPR.out _).mono ?_; rintro e w1 ⟨rfl, ho⟩; have HC := hide ho; clear ho) | (go_at_call 12; refine (HIS.out _).mono ?_; rintro e w2 ⟨rfl, ho⟩; have HC := hide (HC.out.trans ho); clear ho))
        go_ret
        exact makepost HM.out HC.out
    · have hsl : ∀ W, (Instr.sliceAt 9 (.string ⟨#[48, 97, 110, 120, 112, 100, 104, 107, 109, 115, 108]⟩) (some (.int .i64 2)) (some (.int .i64 3)) none).run Tryd.prog W = .ok (.string ⟨#[110]⟩) W := fun W => by kernel_rfl
      have hcat : (⟨#[110]⟩ : ByteArray) ++ ⟨(Lib.decDigits n).toArray⟩ = bytesOf (txtL 3 n b []) := cat_bytes [110] (Lib.decDigits n)
      generalize bytesOf (txtL 3 n b []) = T at *
      rcases Bool.eq_false_or_eq_true (parseV T).isSome with hq | hq
      all_goals
        rw [hq] at HIS HY HNO
        first
          | (have HM := hide (HY.out rfl)) | (have HM := hide (HNO.out rfl))
        clear hq HY HNO
        go_enter Tryd.func18, Tryd.ntmps18
        go_wp2_with (first | (go_at_call 62; refine (HPR.out _).mono ?_; rintro e w1 ⟨rfl, ho⟩; have HC := hide ho; clear ho) | (go_at_call 12; refine (HIS.out _).mono ?_; rintro e w2 ⟨rfl, ho⟩; have HC := hide (HC.out.trans ho); clear ho))
        go_ret
        exact makepost HM.out HC.out
    · have hsl : ∀ W, (Instr.sliceAt 9 (.string ⟨#[48, 97, 110, 120, 112, 100, 104, 107, 109, 115, 108]⟩) (some (.int .i64 3)) (some (.int .i64 4)) none).run Tryd.prog W = .ok (.string ⟨#[120]⟩) W := fun W => by kernel_rfl
      have hcat : (⟨#[120]⟩ : ByteArray) ++ ⟨(hexS b).toArray⟩ = bytesOf (txtL 4 n b []) := cat_bytes [120] (hexS b)
      generalize bytesOf (txtL 4 n b []) = T at *
      rcases Bool.eq_false_or_eq_true (parseV T).isSome with hq | hq
      all_goals
        rw [hq] at HIS HY HNO
        first
          | (have HM := hide (HY.out rfl)) | (have HM := hide (HNO.out rfl))
        clear hq HY HNO
        go_enter Tryd.func18, Tryd.ntmps18
        go_wp2_with (first | (go_at_call 63; refine HHX.out.mono ?_; rintro e w1 ⟨rfl, ho⟩; have HC := hide ho; clear ho) | (go_at_call 12; refine (HIS.out _).mono ?_; rintro e w2 ⟨rfl, ho⟩; have HC := hide (HC.out.trans ho); clear ho))
        go_ret
        exact makepost HM.out HC.out
  · have HM := hide (makeR_leaf (n := n) (b := b) h1 h4 hl)
    have hposN : 0 < l.length := List.length_pos_iff.2 hl
    have hpos : (0 : Int) < l.length := by omega
    have HC := hide (Only.refl [] w)
    clear hb hv hn hbl hl
    rcases (show k = 1 ∨ k = 2 ∨ k = 3 ∨ k = 4 by omega) with rfl | rfl | rfl | rfl
    · have hsl : ∀ W, (Instr.sliceAt 9 (.string ⟨#[48, 97, 110, 120, 112, 100, 104, 107, 109, 115, 108]⟩) (some (.int .i64 0)) (some (.int .i64 1)) none).run Tryd.prog W = .ok (.string ⟨#[48]⟩) W := fun W => by kernel_rfl
      go_enter Tryd.func18, Tryd.ntmps18
      go_wp2_with fail
      go_ret
      exact makepost HM.out HC.out
    · have hsl : ∀ W, (Instr.sliceAt 9 (.string ⟨#[48, 97, 110, 120, 112, 100, 104, 107, 109, 115, 108]⟩) (some (.int .i64 1)) (some (.int .i64 2)) none).run Tryd.prog W = .ok (.string ⟨#[97]⟩) W := fun W => by kernel_rfl
      have hcat : (⟨#[97]⟩ : ByteArray) ++ ⟨(Lib.decDigits n).toArray⟩ = bytesOf (txtL 2 n b []) := cat_bytes [97] (Lib.decDigits n)
      generalize bytesOf (txtL 2 n b []) = T at *
      go_enter Tryd.func18, Tryd.ntmps18
      go_wp2_with (first | (go_at_call 62; refine (HPR.out _).mono ?_; rintro e w1 ⟨rfl, ho⟩; have HC := hide ho; clear ho))
      go_ret
      exact makepost HM.out HC.out
    · have hsl : ∀ W, (Instr.sliceAt 9 (.string ⟨#[48, 97, 110, 120, 112, 100, 104, 107, 109, 115, 108]⟩) (some (.int .i64 2)) (some (.int .i64 3)) none).run Tryd.prog W = .ok (.string ⟨#[110]⟩) W := fun W => by kernel_rfl
      have hcat : (⟨#[110]⟩ : ByteArray) ++ ⟨(Lib.decDigits n).toArray⟩ = bytesOf (txtL 3 n b []) := cat_bytes [110] (Lib.decDigits n)
      generalize bytesOf (txtL 3 n b []) = T at *
      go_enter Tryd.func18, Tryd.ntmps18
      go_wp2_with (first | (go_at_call 62; refine (HPR.out _).mono ?_; rintro e w1 ⟨rfl, ho⟩; have HC := hide ho; clear ho))
      go_ret
      exact makepost HM.out HC.out
    · have hsl : ∀ W, (Instr.sliceAt 9 (.string ⟨#[48, 97, 110, 120, 112, 100, 104, 107, 109, 115, 108]⟩) (some (.int .i64 3)) (some (.int .i64 4)) none).run Tryd.prog W = .ok (.string ⟨#[120]⟩) W := fun W => by kernel_rfl
      have hcat : (⟨#[120]⟩ : ByteArray) ++ ⟨(hexS b).toArray⟩ = bytesOf (txtL 4 n b []) := cat_bytes [120] (hexS b)
      generalize bytesOf (txtL 4 n b []) = T at *
      go_enter Tryd.func18, Tryd.ntmps18
      go_wp2_with (first | (go_at_call 63; refine HHX.out.mono ?_; rintro e w1 ⟨rfl, ho⟩; have HC := hide ho; clear ho))
      go_ret
      exact makepost HM.out HC.out
end
end Go.Proofs.YtfmfnfmhknlpbaaDoor

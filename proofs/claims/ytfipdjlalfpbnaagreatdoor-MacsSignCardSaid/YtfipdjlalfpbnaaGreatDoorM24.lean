/-
  Walks and plain words (texts Rp). No condition beyond those that each theorem states.
-/
import Derived.Test.YtfipdjlalfpbnaaGreatDoorM23
namespace Go.Proofs.YtfipdjlalfpbnaaGreatDoor
section
open Go.RowKit Go.Deep

theorem cat_part (a : List UInt8) (p : ByteArray) : bytesOf a ++ p = bytesOf (a ++ p.data.toList) := by
  have h := cat_bytes a p.data.toList
  rwa [bytesOf_data] at h
theorem get_mem {l : List ByteArray} {j : Nat} (hj : j < l.length) : l.getD j ByteArray.empty ∈ l := by
  rw [List.getD_eq_getElem?_getD, List.getElem?_eq_getElem hj]; exact List.getElem_mem hj
theorem two_list {l : List ByteArray} (h : l.length = 2) : ∃ p q, l = [p, q] := by
  match l, h with
  | [a, b], _ => exact ⟨a, b, rfl⟩

set_option maxRecDepth 100000 in
set_option maxHeartbeats 12800000 in
theorem makeR_bare (k : Int) (hk : k = 5 ∨ k = 7 ∨ k = 9 ∨ k = 11) (n : Nat) (hn : n < 18446744073709551616) (bv lv : Value) (b : List UInt8) (_hbl : b.length ≤ 100000) (l : List ByteArray) (hll : l.length ≤ 1000) (hsz : ∀ p ∈ l, p.size ≤ maxLen) (w : World)
    (hv : Rd w [] lv (strs l)) :
    Calls Tryz.prog 101 #[.int .i64 k, .int .u64 n, bv, lv] w (MakePost (makeV k n b l) w) := by
  have hr : 1 ≤ k ∧ k ≤ 11 := by omega
  have HYES := hide (fun hp hs => makeR_yes (k := k) (n := n) (b := b) (l := l) hr hn (fun h => by omega) hp hs)
  have HNO := hide (fun hp hs => makeR_no (k := k) (n := n) (b := b) (l := l) hr hn (fun h => by omega) hp hs)
  have HPRT := hide (fun (i : Nat) hi h => makeR_part (k := k) (n := n) (b := b) (l := l) (i := i) hi h)
  have HHL := hide (headR_len k n hn (sortV k l))
  have HTX := hide (txt_headR k n b (sortV k l) (by omega))
  have hss := sort_mem k l
  have HSZ := hide (show ∀ p ∈ sortV k l, p.size ≤ maxLen from fun p hp => hsz p ((hss p).1 hp))
  have hsl0 := sort_len k l
  have hso : sortV k l = l := sort_not6 (by omega) l
  rw [hso] at HYES HNO HPRT HHL HTX HSZ
  obtain ⟨A, cap, rfl, hc1, hc2⟩ := hv.form
  unfold maxLen at hc2
  rw [strs_length] at hv hc1 ⊢
  obtain ⟨m, hm⟩ : ∃ m, m = l.length := ⟨_, rfl⟩
  have HM := hide hm
  have HML := hide (show m ≤ 1000 by rw [hm]; exact hll)
  rw [← hm] at hv hc1 ⊢
  have HV0 := hide hv
  obtain ⟨PRE, hPRE⟩ : ∃ P, P = headR k n l := ⟨_, rfl⟩
  rw [← hPRE] at HHL HTX
  obtain ⟨S0, hS0⟩ : ∃ S, S = bytesOf [letU k] := ⟨_, rfl⟩
  obtain ⟨S1, hS1⟩ : ∃ S, S = bytesOf [letU k, 40] := ⟨_, rfl⟩
  have e1 : S0 ++ ⟨#[40]⟩ = S1 := by rw [hS0, hS1]; exact cat_bytes [letU k] [40]
  have hov1 : ¬ 9223372036854775807 < S0.size + 1 := by rw [hS0, bytesOf_size]; simp
  have hs1 : S1.size = 2 := by rw [hS1, bytesOf_size]; rfl
  have HSP := hide (show S1 = bytesOf PRE by rw [hS1, hPRE]; unfold headR; rw [show numberedV k = false by rcases hk with rfl | rfl | rfl | rfl <;> decide, if_neg (by decide)])
  clear hv hn _hbl hll hsz hm hss hso hsl0 hS1 hPRE hr
  rcases hk with rfl | rfl | rfl | rfl
  · have hsl : ∀ W, (Instr.sliceAt 9 (.string ⟨#[48, 97, 110, 120, 112, 100, 104, 107, 109, 115, 108]⟩) (some (.int .i64 4)) (some (.int .i64 5)) none).run Tryz.prog W = .ok (.string S0) W := fun W => by rw [hS0]; kernel_rfl
    clear hS0
    go_enter Tryz.func101, Tryz.ntmps101
    go_wp2_with fail
    go_quiet (fail)
    go_wp2_with fail
    have HQ := hide ((Only.refl [] w).drewN nq)
    have HV := hide (HV0.out.only HQ.out (by simp))
    generalize w.drewN nq = wq at *
    have HC := hide (Only.refl [] wq)
    go_loopw [10, 9] (fun i s wr => ∃ j : Nat, j ≤ m ∧ i = .int .i64 j ∧ s = .string (bytesOf (PRE ++ joinL (l.take j))) ∧ Hid (∀ i, i < j → (parseV (l.getD i ByteArray.empty)).isSome = true) ∧ Hid (Only [] wq wr)) (fun i _ _ => m - (intOf i).toNat)
    case atStart => exact ⟨0, Nat.zero_le _, rfl, (by rw [HSP.out]; simp [joinL]), hide (fun i h => absurd h (Nat.not_lt_zero i)), HC⟩
    case round =>
      clear HC
      obtain ⟨j, hj, rfl, rfl, HK, HC⟩ := hrel
      have HJB := hide (show (PRE ++ joinL (l.take j)).length ≤ 70000000 by have h1 := joinL_bound l j HK.out (by rw [← HM.out]; exact hj); have h2 := HHL.out; have h3 := HML.out; rw [List.length_append]; have h4 : j * 65537 ≤ 1000 * 65537 := Nat.mul_le_mul_right _ (Nat.le_trans hj h3); omega)
      obtain ⟨S, hS⟩ : ∃ S, S = bytesOf (PRE ++ joinL (l.take j)) := ⟨_, rfl⟩
      have hSs : S.size ≤ 70000000 := by rw [hS, bytesOf_size]; exact HJB.out
      rw [← hS]
      have HS := hide hS
      clear hS
      by_cases hlt : j < m
      · have hltI : (j : Int) < m := by omega
        have hjl : j < l.length := by rw [← HM.out]; exact hlt
        obtain ⟨g, o, hAA, _, hg, hcell0⟩ := HV.out.at_.2.2.2 j _ (get_txt hjl)
        first | subst hAA | cases hAA
        have HCE := hide (fun W (h : Only [] wq W) => (cell_only h hg (by simp)).trans hcell0)
        have HIS := hide (fun W => isR_all W (l.getD j ByteArray.empty) (HSZ.out _ (get_mem hjl)))
        unfold RetB at HIS
        rcases Bool.eq_false_or_eq_true (parseV (l.getD j ByteArray.empty)).isSome with hq | hq
        · have HZ := hide (show ∀ i, i < j + 1 → (parseV (l.getD i ByteArray.empty)).isSome = true from fun i hi => (Nat.lt_or_eq_of_le (Nat.le_of_lt_succ hi)).elim (HK.out i) (fun h => by rw [h]; exact hq))
          have hps := part_size hq
          have HJ := hide (joinL_take l j hjl)
          rw [hq] at HIS
          generalize l.getD j ByteArray.empty = part at *
          have hcell := HCE.out _ HC.out
          clear hq hjl hcell0
          by_cases h0 : j = 0
          · have hzero : ¬ (0 : Int) < j := by omega
            have hzeroN : ¬ 0 < j := by omega
            obtain ⟨T, hT⟩ : ∃ T, S ++ part = T := ⟨_, rfl⟩
            have HTT := hide (show T = bytesOf (PRE ++ joinL (l.take (j + 1))) by rw [← hT, HS.out, HJ.out, if_pos h0, List.nil_append, cat_part, List.append_assoc])
            have hov : ¬ 9223372036854775807 < S.size + part.size := by omega
            clear h0
            go_wp2_with (go_at_call 18; refine (HIS.out _).mono ?_; rintro e w2 ⟨rfl, ho⟩; have HC := hide (HC.out.trans ho); clear ho hcell; have hcell := HCE.out _ HC.out)
            go_roundw
            case rel => exact ⟨j + 1, by omega, by go_num, by rw [HTT.out], HZ, HC⟩
            case measure => simp [intOf]; omega
          · have hpos : (0 : Int) < j := by omega
            have hposN : 0 < j := by omega
            obtain ⟨U, hU⟩ : ∃ U, S ++ ⟨#[44]⟩ = U := ⟨_, rfl⟩
            obtain ⟨T, hT⟩ : ∃ T, U ++ part = T := ⟨_, rfl⟩
            have hUU : U = bytesOf (PRE ++ joinL (l.take j) ++ [44]) := by rw [← hU, HS.out]; exact cat_bytes _ [44]
            have HTT := hide (show T = bytesOf (PRE ++ joinL (l.take (j + 1))) by rw [← hT, hUU, HJ.out, if_neg h0, cat_part]; simp)
            have hUs : U.size ≤ 70000001 := by rw [hUU, bytesOf_size, List.length_append]; have := HJB.out; simp only [List.length_cons, List.length_nil]; omega
            have hov : ¬ 9223372036854775807 < S.size + 1 := by omega
            have hov2 : ¬ 9223372036854775807 < U.size + part.size := by omega
            clear h0 hUU
            go_wp2_with (go_at_call 18; refine (HIS.out _).mono ?_; rintro e w2 ⟨rfl, ho⟩; have HC := hide (HC.out.trans ho); clear ho hcell; have hcell := HCE.out _ HC.out)
            go_roundw
            case rel => exact ⟨j + 1, by omega, by go_num, by rw [HTT.out], HZ, HC⟩
            case measure => simp [intOf]; omega
        · have HMK := hide (HPRT.out j hjl hq)
          rw [hq] at HIS
          generalize l.getD j ByteArray.empty = part at *
          have hcell := HCE.out _ HC.out
          clear hq hjl hcell0
          go_wp2_with (go_at_call 18; refine (HIS.out _).mono ?_; rintro e w2 ⟨rfl, ho⟩; have HC := hide (HC.out.trans ho); clear ho hcell; have hcell := HCE.out _ HC.out)
          go_ret
          exact makepost HMK.out (HQ.out.trans HC.out)
      · have hge : ¬ (j : Int) < m := by omega
        obtain ⟨T, hT⟩ : ∃ T, S ++ ⟨#[41]⟩ = T := ⟨_, rfl⟩
        have hTT : T = bytesOf (txtL 5 n b l) := by rw [← hT, HS.out, HTX.out, List.take_of_length_le (by have := HM.out; omega)]; exact cat_bytes _ [41]
        have hTs : T.size ≤ 70000001 := by rw [← hT, HS.out, show bytesOf (PRE ++ joinL (l.take j)) ++ ⟨#[41]⟩ = bytesOf (PRE ++ joinL (l.take j) ++ [41]) from cat_bytes _ [41], bytesOf_size, List.length_append]; have := HJB.out; simp only [List.length_cons, List.length_nil]; omega
        have HIS := hide (fun W => isR_all W T (by unfold maxLen; omega))
        unfold RetB at HIS
        have hov : ¬ 9223372036854775807 < S.size + 1 := by omega
        have hkk : ∀ i, i < l.length → (parseV (l.getD i ByteArray.empty)).isSome = true := fun i hi => HK.out i (by have := HM.out; omega)
        rcases Bool.eq_false_or_eq_true (parseV T).isSome with hq | hq
        · have HMK := hide (show makeV 5 n b l = T by rw [hTT]; rw [hTT] at hq; exact HYES.out hkk hq)
          rw [hq] at HIS
          clear hq hTT hkk
          go_wp2_with (go_at_call 18; refine (HIS.out _).mono ?_; rintro e w2 ⟨rfl, ho⟩; have HC := hide (HC.out.trans ho); clear ho)
          go_ret
          exact makepost HMK.out (HQ.out.trans HC.out)
        · have HMK := hide (show makeV 5 n b l = ByteArray.empty by rw [hTT] at hq; exact HNO.out hkk hq)
          rw [hq] at HIS
          clear hq hTT hkk
          go_wp2_with (go_at_call 18; refine (HIS.out _).mono ?_; rintro e w2 ⟨rfl, ho⟩; have HC := hide (HC.out.trans ho); clear ho)
          go_ret
          exact makepost HMK.out (HQ.out.trans HC.out)
  · have hsl : ∀ W, (Instr.sliceAt 9 (.string ⟨#[48, 97, 110, 120, 112, 100, 104, 107, 109, 115, 108]⟩) (some (.int .i64 6)) (some (.int .i64 7)) none).run Tryz.prog W = .ok (.string S0) W := fun W => by rw [hS0]; kernel_rfl
    clear hS0
    go_enter Tryz.func101, Tryz.ntmps101
    go_wp2_with fail
    go_quiet (fail)
    go_wp2_with fail
    have HQ := hide ((Only.refl [] w).drewN nq)
    have HV := hide (HV0.out.only HQ.out (by simp))
    generalize w.drewN nq = wq at *
    have HC := hide (Only.refl [] wq)
    go_loopw [10, 9] (fun i s wr => ∃ j : Nat, j ≤ m ∧ i = .int .i64 j ∧ s = .string (bytesOf (PRE ++ joinL (l.take j))) ∧ Hid (∀ i, i < j → (parseV (l.getD i ByteArray.empty)).isSome = true) ∧ Hid (Only [] wq wr)) (fun i _ _ => m - (intOf i).toNat)
    case atStart => exact ⟨0, Nat.zero_le _, rfl, (by rw [HSP.out]; simp [joinL]), hide (fun i h => absurd h (Nat.not_lt_zero i)), HC⟩
    case round =>
      clear HC
      obtain ⟨j, hj, rfl, rfl, HK, HC⟩ := hrel
      have HJB := hide (show (PRE ++ joinL (l.take j)).length ≤ 70000000 by have h1 := joinL_bound l j HK.out (by rw [← HM.out]; exact hj); have h2 := HHL.out; have h3 := HML.out; rw [List.length_append]; have h4 : j * 65537 ≤ 1000 * 65537 := Nat.mul_le_mul_right _ (Nat.le_trans hj h3); omega)
      obtain ⟨S, hS⟩ : ∃ S, S = bytesOf (PRE ++ joinL (l.take j)) := ⟨_, rfl⟩
      have hSs : S.size ≤ 70000000 := by rw [hS, bytesOf_size]; exact HJB.out
      rw [← hS]
      have HS := hide hS
      clear hS
      by_cases hlt : j < m
      · have hltI : (j : Int) < m := by omega
        have hjl : j < l.length := by rw [← HM.out]; exact hlt
        obtain ⟨g, o, hAA, _, hg, hcell0⟩ := HV.out.at_.2.2.2 j _ (get_txt hjl)
        first | subst hAA | cases hAA
        have HCE := hide (fun W (h : Only [] wq W) => (cell_only h hg (by simp)).trans hcell0)
        have HIS := hide (fun W => isR_all W (l.getD j ByteArray.empty) (HSZ.out _ (get_mem hjl)))
        unfold RetB at HIS
        rcases Bool.eq_false_or_eq_true (parseV (l.getD j ByteArray.empty)).isSome with hq | hq
        · have HZ := hide (show ∀ i, i < j + 1 → (parseV (l.getD i ByteArray.empty)).isSome = true from fun i hi => (Nat.lt_or_eq_of_le (Nat.le_of_lt_succ hi)).elim (HK.out i) (fun h => by rw [h]; exact hq))
          have hps := part_size hq
          have HJ := hide (joinL_take l j hjl)
          rw [hq] at HIS
          generalize l.getD j ByteArray.empty = part at *
          have hcell := HCE.out _ HC.out
          clear hq hjl hcell0
          by_cases h0 : j = 0
          · have hzero : ¬ (0 : Int) < j := by omega
            have hzeroN : ¬ 0 < j := by omega
            obtain ⟨T, hT⟩ : ∃ T, S ++ part = T := ⟨_, rfl⟩
            have HTT := hide (show T = bytesOf (PRE ++ joinL (l.take (j + 1))) by rw [← hT, HS.out, HJ.out, if_pos h0, List.nil_append, cat_part, List.append_assoc])
            have hov : ¬ 9223372036854775807 < S.size + part.size := by omega
            clear h0
            go_wp2_with (go_at_call 18; refine (HIS.out _).mono ?_; rintro e w2 ⟨rfl, ho⟩; have HC := hide (HC.out.trans ho); clear ho hcell; have hcell := HCE.out _ HC.out)
            go_roundw
            case rel => exact ⟨j + 1, by omega, by go_num, by rw [HTT.out], HZ, HC⟩
            case measure => simp [intOf]; omega
          · have hpos : (0 : Int) < j := by omega
            have hposN : 0 < j := by omega
            obtain ⟨U, hU⟩ : ∃ U, S ++ ⟨#[44]⟩ = U := ⟨_, rfl⟩
            obtain ⟨T, hT⟩ : ∃ T, U ++ part = T := ⟨_, rfl⟩
            have hUU : U = bytesOf (PRE ++ joinL (l.take j) ++ [44]) := by rw [← hU, HS.out]; exact cat_bytes _ [44]
            have HTT := hide (show T = bytesOf (PRE ++ joinL (l.take (j + 1))) by rw [← hT, hUU, HJ.out, if_neg h0, cat_part]; simp)
            have hUs : U.size ≤ 70000001 := by rw [hUU, bytesOf_size, List.length_append]; have := HJB.out; simp only [List.length_cons, List.length_nil]; omega
            have hov : ¬ 9223372036854775807 < S.size + 1 := by omega
            have hov2 : ¬ 9223372036854775807 < U.size + part.size := by omega
            clear h0 hUU
            go_wp2_with (go_at_call 18; refine (HIS.out _).mono ?_; rintro e w2 ⟨rfl, ho⟩; have HC := hide (HC.out.trans ho); clear ho hcell; have hcell := HCE.out _ HC.out)
            go_roundw
            case rel => exact ⟨j + 1, by omega, by go_num, by rw [HTT.out], HZ, HC⟩
            case measure => simp [intOf]; omega
        · have HMK := hide (HPRT.out j hjl hq)
          rw [hq] at HIS
          generalize l.getD j ByteArray.empty = part at *
          have hcell := HCE.out _ HC.out
          clear hq hjl hcell0
          go_wp2_with (go_at_call 18; refine (HIS.out _).mono ?_; rintro e w2 ⟨rfl, ho⟩; have HC := hide (HC.out.trans ho); clear ho hcell; have hcell := HCE.out _ HC.out)
          go_ret
          exact makepost HMK.out (HQ.out.trans HC.out)
      · have hge : ¬ (j : Int) < m := by omega
        obtain ⟨T, hT⟩ : ∃ T, S ++ ⟨#[41]⟩ = T := ⟨_, rfl⟩
        have hTT : T = bytesOf (txtL 7 n b l) := by rw [← hT, HS.out, HTX.out, List.take_of_length_le (by have := HM.out; omega)]; exact cat_bytes _ [41]
        have hTs : T.size ≤ 70000001 := by rw [← hT, HS.out, show bytesOf (PRE ++ joinL (l.take j)) ++ ⟨#[41]⟩ = bytesOf (PRE ++ joinL (l.take j) ++ [41]) from cat_bytes _ [41], bytesOf_size, List.length_append]; have := HJB.out; simp only [List.length_cons, List.length_nil]; omega
        have HIS := hide (fun W => isR_all W T (by unfold maxLen; omega))
        unfold RetB at HIS
        have hov : ¬ 9223372036854775807 < S.size + 1 := by omega
        have hkk : ∀ i, i < l.length → (parseV (l.getD i ByteArray.empty)).isSome = true := fun i hi => HK.out i (by have := HM.out; omega)
        rcases Bool.eq_false_or_eq_true (parseV T).isSome with hq | hq
        · have HMK := hide (show makeV 7 n b l = T by rw [hTT]; rw [hTT] at hq; exact HYES.out hkk hq)
          rw [hq] at HIS
          clear hq hTT hkk
          go_wp2_with (go_at_call 18; refine (HIS.out _).mono ?_; rintro e w2 ⟨rfl, ho⟩; have HC := hide (HC.out.trans ho); clear ho)
          go_ret
          exact makepost HMK.out (HQ.out.trans HC.out)
        · have HMK := hide (show makeV 7 n b l = ByteArray.empty by rw [hTT] at hq; exact HNO.out hkk hq)
          rw [hq] at HIS
          clear hq hTT hkk
          go_wp2_with (go_at_call 18; refine (HIS.out _).mono ?_; rintro e w2 ⟨rfl, ho⟩; have HC := hide (HC.out.trans ho); clear ho)
          go_ret
          exact makepost HMK.out (HQ.out.trans HC.out)
  · have hsl : ∀ W, (Instr.sliceAt 9 (.string ⟨#[48, 97, 110, 120, 112, 100, 104, 107, 109, 115, 108]⟩) (some (.int .i64 8)) (some (.int .i64 9)) none).run Tryz.prog W = .ok (.string S0) W := fun W => by rw [hS0]; kernel_rfl
    clear hS0
    go_enter Tryz.func101, Tryz.ntmps101
    go_wp2_with fail
    go_quiet (fail)
    go_wp2_with fail
    have HQ := hide ((Only.refl [] w).drewN nq)
    have HV := hide (HV0.out.only HQ.out (by simp))
    generalize w.drewN nq = wq at *
    have HC := hide (Only.refl [] wq)
    go_loopw [10, 9] (fun i s wr => ∃ j : Nat, j ≤ m ∧ i = .int .i64 j ∧ s = .string (bytesOf (PRE ++ joinL (l.take j))) ∧ Hid (∀ i, i < j → (parseV (l.getD i ByteArray.empty)).isSome = true) ∧ Hid (Only [] wq wr)) (fun i _ _ => m - (intOf i).toNat)
    case atStart => exact ⟨0, Nat.zero_le _, rfl, (by rw [HSP.out]; simp [joinL]), hide (fun i h => absurd h (Nat.not_lt_zero i)), HC⟩
    case round =>
      clear HC
      obtain ⟨j, hj, rfl, rfl, HK, HC⟩ := hrel
      have HJB := hide (show (PRE ++ joinL (l.take j)).length ≤ 70000000 by have h1 := joinL_bound l j HK.out (by rw [← HM.out]; exact hj); have h2 := HHL.out; have h3 := HML.out; rw [List.length_append]; have h4 : j * 65537 ≤ 1000 * 65537 := Nat.mul_le_mul_right _ (Nat.le_trans hj h3); omega)
      obtain ⟨S, hS⟩ : ∃ S, S = bytesOf (PRE ++ joinL (l.take j)) := ⟨_, rfl⟩
      have hSs : S.size ≤ 70000000 := by rw [hS, bytesOf_size]; exact HJB.out
      rw [← hS]
      have HS := hide hS
      clear hS
      by_cases hlt : j < m
      · have hltI : (j : Int) < m := by omega
        have hjl : j < l.length := by rw [← HM.out]; exact hlt
        obtain ⟨g, o, hAA, _, hg, hcell0⟩ := HV.out.at_.2.2.2 j _ (get_txt hjl)
        first | subst hAA | cases hAA
        have HCE := hide (fun W (h : Only [] wq W) => (cell_only h hg (by simp)).trans hcell0)
        have HIS := hide (fun W => isR_all W (l.getD j ByteArray.empty) (HSZ.out _ (get_mem hjl)))
        unfold RetB at HIS
        rcases Bool.eq_false_or_eq_true (parseV (l.getD j ByteArray.empty)).isSome with hq | hq
        · have HZ := hide (show ∀ i, i < j + 1 → (parseV (l.getD i ByteArray.empty)).isSome = true from fun i hi => (Nat.lt_or_eq_of_le (Nat.le_of_lt_succ hi)).elim (HK.out i) (fun h => by rw [h]; exact hq))
          have hps := part_size hq
          have HJ := hide (joinL_take l j hjl)
          rw [hq] at HIS
          generalize l.getD j ByteArray.empty = part at *
          have hcell := HCE.out _ HC.out
          clear hq hjl hcell0
          by_cases h0 : j = 0
          · have hzero : ¬ (0 : Int) < j := by omega
            have hzeroN : ¬ 0 < j := by omega
            obtain ⟨T, hT⟩ : ∃ T, S ++ part = T := ⟨_, rfl⟩
            have HTT := hide (show T = bytesOf (PRE ++ joinL (l.take (j + 1))) by rw [← hT, HS.out, HJ.out, if_pos h0, List.nil_append, cat_part, List.append_assoc])
            have hov : ¬ 9223372036854775807 < S.size + part.size := by omega
            clear h0
            go_wp2_with (go_at_call 18; refine (HIS.out _).mono ?_; rintro e w2 ⟨rfl, ho⟩; have HC := hide (HC.out.trans ho); clear ho hcell; have hcell := HCE.out _ HC.out)
            go_roundw
            case rel => exact ⟨j + 1, by omega, by go_num, by rw [HTT.out], HZ, HC⟩
            case measure => simp [intOf]; omega
          · have hpos : (0 : Int) < j := by omega
            have hposN : 0 < j := by omega
            obtain ⟨U, hU⟩ : ∃ U, S ++ ⟨#[44]⟩ = U := ⟨_, rfl⟩
            obtain ⟨T, hT⟩ : ∃ T, U ++ part = T := ⟨_, rfl⟩
            have hUU : U = bytesOf (PRE ++ joinL (l.take j) ++ [44]) := by rw [← hU, HS.out]; exact cat_bytes _ [44]
            have HTT := hide (show T = bytesOf (PRE ++ joinL (l.take (j + 1))) by rw [← hT, hUU, HJ.out, if_neg h0, cat_part]; simp)
            have hUs : U.size ≤ 70000001 := by rw [hUU, bytesOf_size, List.length_append]; have := HJB.out; simp only [List.length_cons, List.length_nil]; omega
            have hov : ¬ 9223372036854775807 < S.size + 1 := by omega
            have hov2 : ¬ 9223372036854775807 < U.size + part.size := by omega
            clear h0 hUU
            go_wp2_with (go_at_call 18; refine (HIS.out _).mono ?_; rintro e w2 ⟨rfl, ho⟩; have HC := hide (HC.out.trans ho); clear ho hcell; have hcell := HCE.out _ HC.out)
            go_roundw
            case rel => exact ⟨j + 1, by omega, by go_num, by rw [HTT.out], HZ, HC⟩
            case measure => simp [intOf]; omega
        · have HMK := hide (HPRT.out j hjl hq)
          rw [hq] at HIS
          generalize l.getD j ByteArray.empty = part at *
          have hcell := HCE.out _ HC.out
          clear hq hjl hcell0
          go_wp2_with (go_at_call 18; refine (HIS.out _).mono ?_; rintro e w2 ⟨rfl, ho⟩; have HC := hide (HC.out.trans ho); clear ho hcell; have hcell := HCE.out _ HC.out)
          go_ret
          exact makepost HMK.out (HQ.out.trans HC.out)
      · have hge : ¬ (j : Int) < m := by omega
        obtain ⟨T, hT⟩ : ∃ T, S ++ ⟨#[41]⟩ = T := ⟨_, rfl⟩
        have hTT : T = bytesOf (txtL 9 n b l) := by rw [← hT, HS.out, HTX.out, List.take_of_length_le (by have := HM.out; omega)]; exact cat_bytes _ [41]
        have hTs : T.size ≤ 70000001 := by rw [← hT, HS.out, show bytesOf (PRE ++ joinL (l.take j)) ++ ⟨#[41]⟩ = bytesOf (PRE ++ joinL (l.take j) ++ [41]) from cat_bytes _ [41], bytesOf_size, List.length_append]; have := HJB.out; simp only [List.length_cons, List.length_nil]; omega
        have HIS := hide (fun W => isR_all W T (by unfold maxLen; omega))
        unfold RetB at HIS
        have hov : ¬ 9223372036854775807 < S.size + 1 := by omega
        have hkk : ∀ i, i < l.length → (parseV (l.getD i ByteArray.empty)).isSome = true := fun i hi => HK.out i (by have := HM.out; omega)
        rcases Bool.eq_false_or_eq_true (parseV T).isSome with hq | hq
        · have HMK := hide (show makeV 9 n b l = T by rw [hTT]; rw [hTT] at hq; exact HYES.out hkk hq)
          rw [hq] at HIS
          clear hq hTT hkk
          go_wp2_with (go_at_call 18; refine (HIS.out _).mono ?_; rintro e w2 ⟨rfl, ho⟩; have HC := hide (HC.out.trans ho); clear ho)
          go_ret
          exact makepost HMK.out (HQ.out.trans HC.out)
        · have HMK := hide (show makeV 9 n b l = ByteArray.empty by rw [hTT] at hq; exact HNO.out hkk hq)
          rw [hq] at HIS
          clear hq hTT hkk
          go_wp2_with (go_at_call 18; refine (HIS.out _).mono ?_; rintro e w2 ⟨rfl, ho⟩; have HC := hide (HC.out.trans ho); clear ho)
          go_ret
          exact makepost HMK.out (HQ.out.trans HC.out)
  · have hsl : ∀ W, (Instr.sliceAt 9 (.string ⟨#[48, 97, 110, 120, 112, 100, 104, 107, 109, 115, 108]⟩) (some (.int .i64 10)) (some (.int .i64 11)) none).run Tryz.prog W = .ok (.string S0) W := fun W => by rw [hS0]; kernel_rfl
    clear hS0
    go_enter Tryz.func101, Tryz.ntmps101
    go_wp2_with fail
    go_quiet (fail)
    go_wp2_with fail
    have HQ := hide ((Only.refl [] w).drewN nq)
    have HV := hide (HV0.out.only HQ.out (by simp))
    generalize w.drewN nq = wq at *
    have HC := hide (Only.refl [] wq)
    go_loopw [10, 9] (fun i s wr => ∃ j : Nat, j ≤ m ∧ i = .int .i64 j ∧ s = .string (bytesOf (PRE ++ joinL (l.take j))) ∧ Hid (∀ i, i < j → (parseV (l.getD i ByteArray.empty)).isSome = true) ∧ Hid (Only [] wq wr)) (fun i _ _ => m - (intOf i).toNat)
    case atStart => exact ⟨0, Nat.zero_le _, rfl, (by rw [HSP.out]; simp [joinL]), hide (fun i h => absurd h (Nat.not_lt_zero i)), HC⟩
    case round =>
      clear HC
      obtain ⟨j, hj, rfl, rfl, HK, HC⟩ := hrel
      have HJB := hide (show (PRE ++ joinL (l.take j)).length ≤ 70000000 by have h1 := joinL_bound l j HK.out (by rw [← HM.out]; exact hj); have h2 := HHL.out; have h3 := HML.out; rw [List.length_append]; have h4 : j * 65537 ≤ 1000 * 65537 := Nat.mul_le_mul_right _ (Nat.le_trans hj h3); omega)
      obtain ⟨S, hS⟩ : ∃ S, S = bytesOf (PRE ++ joinL (l.take j)) := ⟨_, rfl⟩
      have hSs : S.size ≤ 70000000 := by rw [hS, bytesOf_size]; exact HJB.out
      rw [← hS]
      have HS := hide hS
      clear hS
      by_cases hlt : j < m
      · have hltI : (j : Int) < m := by omega
        have hjl : j < l.length := by rw [← HM.out]; exact hlt
        obtain ⟨g, o, hAA, _, hg, hcell0⟩ := HV.out.at_.2.2.2 j _ (get_txt hjl)
        first | subst hAA | cases hAA
        have HCE := hide (fun W (h : Only [] wq W) => (cell_only h hg (by simp)).trans hcell0)
        have HIS := hide (fun W => isR_all W (l.getD j ByteArray.empty) (HSZ.out _ (get_mem hjl)))
        unfold RetB at HIS
        rcases Bool.eq_false_or_eq_true (parseV (l.getD j ByteArray.empty)).isSome with hq | hq
        · have HZ := hide (show ∀ i, i < j + 1 → (parseV (l.getD i ByteArray.empty)).isSome = true from fun i hi => (Nat.lt_or_eq_of_le (Nat.le_of_lt_succ hi)).elim (HK.out i) (fun h => by rw [h]; exact hq))
          have hps := part_size hq
          have HJ := hide (joinL_take l j hjl)
          rw [hq] at HIS
          generalize l.getD j ByteArray.empty = part at *
          have hcell := HCE.out _ HC.out
          clear hq hjl hcell0
          by_cases h0 : j = 0
          · have hzero : ¬ (0 : Int) < j := by omega
            have hzeroN : ¬ 0 < j := by omega
            obtain ⟨T, hT⟩ : ∃ T, S ++ part = T := ⟨_, rfl⟩
            have HTT := hide (show T = bytesOf (PRE ++ joinL (l.take (j + 1))) by rw [← hT, HS.out, HJ.out, if_pos h0, List.nil_append, cat_part, List.append_assoc])
            have hov : ¬ 9223372036854775807 < S.size + part.size := by omega
            clear h0
            go_wp2_with (go_at_call 18; refine (HIS.out _).mono ?_; rintro e w2 ⟨rfl, ho⟩; have HC := hide (HC.out.trans ho); clear ho hcell; have hcell := HCE.out _ HC.out)
            go_roundw
            case rel => exact ⟨j + 1, by omega, by go_num, by rw [HTT.out], HZ, HC⟩
            case measure => simp [intOf]; omega
          · have hpos : (0 : Int) < j := by omega
            have hposN : 0 < j := by omega
            obtain ⟨U, hU⟩ : ∃ U, S ++ ⟨#[44]⟩ = U := ⟨_, rfl⟩
            obtain ⟨T, hT⟩ : ∃ T, U ++ part = T := ⟨_, rfl⟩
            have hUU : U = bytesOf (PRE ++ joinL (l.take j) ++ [44]) := by rw [← hU, HS.out]; exact cat_bytes _ [44]
            have HTT := hide (show T = bytesOf (PRE ++ joinL (l.take (j + 1))) by rw [← hT, hUU, HJ.out, if_neg h0, cat_part]; simp)
            have hUs : U.size ≤ 70000001 := by rw [hUU, bytesOf_size, List.length_append]; have := HJB.out; simp only [List.length_cons, List.length_nil]; omega
            have hov : ¬ 9223372036854775807 < S.size + 1 := by omega
            have hov2 : ¬ 9223372036854775807 < U.size + part.size := by omega
            clear h0 hUU
            go_wp2_with (go_at_call 18; refine (HIS.out _).mono ?_; rintro e w2 ⟨rfl, ho⟩; have HC := hide (HC.out.trans ho); clear ho hcell; have hcell := HCE.out _ HC.out)
            go_roundw
            case rel => exact ⟨j + 1, by omega, by go_num, by rw [HTT.out], HZ, HC⟩
            case measure => simp [intOf]; omega
        · have HMK := hide (HPRT.out j hjl hq)
          rw [hq] at HIS
          generalize l.getD j ByteArray.empty = part at *
          have hcell := HCE.out _ HC.out
          clear hq hjl hcell0
          go_wp2_with (go_at_call 18; refine (HIS.out _).mono ?_; rintro e w2 ⟨rfl, ho⟩; have HC := hide (HC.out.trans ho); clear ho hcell; have hcell := HCE.out _ HC.out)
          go_ret
          exact makepost HMK.out (HQ.out.trans HC.out)
      · have hge : ¬ (j : Int) < m := by omega
        obtain ⟨T, hT⟩ : ∃ T, S ++ ⟨#[41]⟩ = T := ⟨_, rfl⟩
        have hTT : T = bytesOf (txtL 11 n b l) := by rw [← hT, HS.out, HTX.out, List.take_of_length_le (by have := HM.out; omega)]; exact cat_bytes _ [41]
        have hTs : T.size ≤ 70000001 := by rw [← hT, HS.out, show bytesOf (PRE ++ joinL (l.take j)) ++ ⟨#[41]⟩ = bytesOf (PRE ++ joinL (l.take j) ++ [41]) from cat_bytes _ [41], bytesOf_size, List.length_append]; have := HJB.out; simp only [List.length_cons, List.length_nil]; omega
        have HIS := hide (fun W => isR_all W T (by unfold maxLen; omega))
        unfold RetB at HIS
        have hov : ¬ 9223372036854775807 < S.size + 1 := by omega
        have hkk : ∀ i, i < l.length → (parseV (l.getD i ByteArray.empty)).isSome = true := fun i hi => HK.out i (by have := HM.out; omega)
        rcases Bool.eq_false_or_eq_true (parseV T).isSome with hq | hq
        · have HMK := hide (show makeV 11 n b l = T by rw [hTT]; rw [hTT] at hq; exact HYES.out hkk hq)
          rw [hq] at HIS
          clear hq hTT hkk
          go_wp2_with (go_at_call 18; refine (HIS.out _).mono ?_; rintro e w2 ⟨rfl, ho⟩; have HC := hide (HC.out.trans ho); clear ho)
          go_ret
          exact makepost HMK.out (HQ.out.trans HC.out)
        · have HMK := hide (show makeV 11 n b l = ByteArray.empty by rw [hTT] at hq; exact HNO.out hkk hq)
          rw [hq] at HIS
          clear hq hTT hkk
          go_wp2_with (go_at_call 18; refine (HIS.out _).mono ?_; rintro e w2 ⟨rfl, ho⟩; have HC := hide (HC.out.trans ho); clear ho)
          go_ret
          exact makepost HMK.out (HQ.out.trans HC.out)

set_option maxRecDepth 100000 in
set_option maxHeartbeats 12800000 in
theorem makeR_num (k : Int) (hk : k = 8 ∨ k = 10) (n : Nat) (hn : n < 18446744073709551616) (bv lv : Value) (b : List UInt8) (_hbl : b.length ≤ 100000) (l : List ByteArray) (hll : l.length ≤ 1000) (hsz : ∀ p ∈ l, p.size ≤ maxLen) (w : World)
    (hv : Rd w [] lv (strs l)) :
    Calls Tryz.prog 101 #[.int .i64 k, .int .u64 n, bv, lv] w (MakePost (makeV k n b l) w) := by
  have hr : 1 ≤ k ∧ k ≤ 11 := by omega
  have HYES := hide (fun hp hs => makeR_yes (k := k) (n := n) (b := b) (l := l) hr hn (fun h => by omega) hp hs)
  have HNO := hide (fun hp hs => makeR_no (k := k) (n := n) (b := b) (l := l) hr hn (fun h => by omega) hp hs)
  have HPRT := hide (fun (i : Nat) hi h => makeR_part (k := k) (n := n) (b := b) (l := l) (i := i) hi h)
  have HHL := hide (headR_len k n hn (sortV k l))
  have HTX := hide (txt_headR k n b (sortV k l) (by omega))
  have hss := sort_mem k l
  have HSZ := hide (show ∀ p ∈ sortV k l, p.size ≤ maxLen from fun p hp => hsz p ((hss p).1 hp))
  have hsl0 := sort_len k l
  have hso : sortV k l = l := sort_not6 (by omega) l
  rw [hso] at HYES HNO HPRT HHL HTX HSZ
  obtain ⟨A, cap, rfl, hc1, hc2⟩ := hv.form
  unfold maxLen at hc2
  rw [strs_length] at hv hc1 ⊢
  obtain ⟨m, hm⟩ : ∃ m, m = l.length := ⟨_, rfl⟩
  have HM := hide hm
  have HML := hide (show m ≤ 1000 by rw [hm]; exact hll)
  rw [← hm] at hv hc1 ⊢
  have HV0 := hide hv
  obtain ⟨PRE, hPRE⟩ : ∃ P, P = headR k n l := ⟨_, rfl⟩
  rw [← hPRE] at HHL HTX
  obtain ⟨S0, hS0⟩ : ∃ S, S = bytesOf [letU k] := ⟨_, rfl⟩
  obtain ⟨S1, hS1⟩ : ∃ S, S = bytesOf [letU k, 40] := ⟨_, rfl⟩
  have e1 : S0 ++ ⟨#[40]⟩ = S1 := by rw [hS0, hS1]; exact cat_bytes [letU k] [40]
  have hov1 : ¬ 9223372036854775807 < S0.size + 1 := by rw [hS0, bytesOf_size]; simp
  have hs1 : S1.size = 2 := by rw [hS1, bytesOf_size]; rfl
  have HPR := hide (fun W => print_ref n hn W)
  unfold StrPost at HPR
  obtain ⟨D, hD⟩ : ∃ D, D = bytesOf (Lib.decDigits n) := ⟨_, rfl⟩
  rw [show (⟨(Lib.decDigits n).toArray⟩ : ByteArray) = D from hD.symm] at HPR
  have hds : D.size ≤ 20 := by rw [hD, bytesOf_size]; have := dec_len n hn; omega
  obtain ⟨S2, hS2⟩ : ∃ S, S = bytesOf ([letU k, 40] ++ Lib.decDigits n) := ⟨_, rfl⟩
  have e2 : S1 ++ D = S2 := by rw [hS1, hS2, hD]; exact cat_bytes _ _
  have hov2 : ¬ 9223372036854775807 < S1.size + D.size := by omega
  have hs2 : S2.size ≤ 22 := by rw [hS2, bytesOf_size, List.length_append]; have := dec_len n hn; simp; omega
  obtain ⟨S3, hS3⟩ : ∃ S, S = bytesOf ([letU k, 40] ++ Lib.decDigits n ++ [44]) := ⟨_, rfl⟩
  have e3 : S2 ++ ⟨#[44]⟩ = S3 := by rw [hS2, hS3]; exact cat_bytes _ [44]
  have hov3 : ¬ 9223372036854775807 < S2.size + 1 := by omega
  have hnb : numberedV k = true := by rcases hk with rfl | rfl <;> decide
  by_cases hm0 : m = 0
  · have hz : l = [] := List.length_eq_zero_iff.1 (by rw [← HM.out]; exact hm0)
    have HSP := hide (show S2 = bytesOf PRE by rw [hS2, hPRE]; unfold headR; rw [hnb, if_pos rfl, if_pos hz]; simp)
    have hpI : ¬ (0 : Int) < m := by omega
    have hpN : ¬ 0 < m := by omega
    clear hv hn _hbl hll hsz hm hss hso hsl0 hS1 hPRE hr hm0 hz hD hS2 hS3 hnb
    rcases hk with rfl | rfl
    · have hsl : ∀ W, (Instr.sliceAt 9 (.string ⟨#[48, 97, 110, 120, 112, 100, 104, 107, 109, 115, 108]⟩) (some (.int .i64 7)) (some (.int .i64 8)) none).run Tryz.prog W = .ok (.string S0) W := fun W => by rw [hS0]; kernel_rfl
      clear hS0
      go_enter Tryz.func101, Tryz.ntmps101
      go_wp2_with fail
      go_quiet (fail)
      go_wp2_with (go_at_call 128; refine (HPR.out _).mono ?_; rintro e w1 ⟨rfl, ho⟩; have HQ := hide (((Only.refl [] w).drewN nq).trans ho); clear ho)
      have HV := hide (HV0.out.only HQ.out (by simp))
      generalize w1 = wq at *
      have HC := hide (Only.refl [] wq)
      go_loopw [10, 9] (fun i s wr => ∃ j : Nat, j ≤ m ∧ i = .int .i64 j ∧ s = .string (bytesOf (PRE ++ joinL (l.take j))) ∧ Hid (∀ i, i < j → (parseV (l.getD i ByteArray.empty)).isSome = true) ∧ Hid (Only [] wq wr)) (fun i _ _ => m - (intOf i).toNat)
      case atStart => exact ⟨0, Nat.zero_le _, rfl, (by rw [HSP.out]; simp [joinL]), hide (fun i h => absurd h (Nat.not_lt_zero i)), HC⟩
      case round =>
        clear HC
        obtain ⟨j, hj, rfl, rfl, HK, HC⟩ := hrel
        have HJB := hide (show (PRE ++ joinL (l.take j)).length ≤ 70000000 by have h1 := joinL_bound l j HK.out (by rw [← HM.out]; exact hj); have h2 := HHL.out; have h3 := HML.out; rw [List.length_append]; have h4 : j * 65537 ≤ 1000 * 65537 := Nat.mul_le_mul_right _ (Nat.le_trans hj h3); omega)
        obtain ⟨S, hS⟩ : ∃ S, S = bytesOf (PRE ++ joinL (l.take j)) := ⟨_, rfl⟩
        have hSs : S.size ≤ 70000000 := by rw [hS, bytesOf_size]; exact HJB.out
        rw [← hS]
        have HS := hide hS
        clear hS
        by_cases hlt : j < m
        · have hltI : (j : Int) < m := by omega
          have hjl : j < l.length := by rw [← HM.out]; exact hlt
          obtain ⟨g, o, hAA, _, hg, hcell0⟩ := HV.out.at_.2.2.2 j _ (get_txt hjl)
          first | subst hAA | cases hAA
          have HCE := hide (fun W (h : Only [] wq W) => (cell_only h hg (by simp)).trans hcell0)
          have HIS := hide (fun W => isR_all W (l.getD j ByteArray.empty) (HSZ.out _ (get_mem hjl)))
          unfold RetB at HIS
          rcases Bool.eq_false_or_eq_true (parseV (l.getD j ByteArray.empty)).isSome with hq | hq
          · have HZ := hide (show ∀ i, i < j + 1 → (parseV (l.getD i ByteArray.empty)).isSome = true from fun i hi => (Nat.lt_or_eq_of_le (Nat.le_of_lt_succ hi)).elim (HK.out i) (fun h => by rw [h]; exact hq))
            have hps := part_size hq
            have HJ := hide (joinL_take l j hjl)
            rw [hq] at HIS
            generalize l.getD j ByteArray.empty = part at *
            have hcell := HCE.out _ HC.out
            clear hq hjl hcell0
            by_cases h0 : j = 0
            · have hzero : ¬ (0 : Int) < j := by omega
              have hzeroN : ¬ 0 < j := by omega
              obtain ⟨T, hT⟩ : ∃ T, S ++ part = T := ⟨_, rfl⟩
              have HTT := hide (show T = bytesOf (PRE ++ joinL (l.take (j + 1))) by rw [← hT, HS.out, HJ.out, if_pos h0, List.nil_append, cat_part, List.append_assoc])
              have hov : ¬ 9223372036854775807 < S.size + part.size := by omega
              clear h0
              go_wp2_with (go_at_call 18; refine (HIS.out _).mono ?_; rintro e w2 ⟨rfl, ho⟩; have HC := hide (HC.out.trans ho); clear ho hcell; have hcell := HCE.out _ HC.out)
              go_roundw
              case rel => exact ⟨j + 1, by omega, by go_num, by rw [HTT.out], HZ, HC⟩
              case measure => simp [intOf]; omega
            · have hpos : (0 : Int) < j := by omega
              have hposN : 0 < j := by omega
              obtain ⟨U, hU⟩ : ∃ U, S ++ ⟨#[44]⟩ = U := ⟨_, rfl⟩
              obtain ⟨T, hT⟩ : ∃ T, U ++ part = T := ⟨_, rfl⟩
              have hUU : U = bytesOf (PRE ++ joinL (l.take j) ++ [44]) := by rw [← hU, HS.out]; exact cat_bytes _ [44]
              have HTT := hide (show T = bytesOf (PRE ++ joinL (l.take (j + 1))) by rw [← hT, hUU, HJ.out, if_neg h0, cat_part]; simp)
              have hUs : U.size ≤ 70000001 := by rw [hUU, bytesOf_size, List.length_append]; have := HJB.out; simp only [List.length_cons, List.length_nil]; omega
              have hov : ¬ 9223372036854775807 < S.size + 1 := by omega
              have hov2 : ¬ 9223372036854775807 < U.size + part.size := by omega
              clear h0 hUU
              go_wp2_with (go_at_call 18; refine (HIS.out _).mono ?_; rintro e w2 ⟨rfl, ho⟩; have HC := hide (HC.out.trans ho); clear ho hcell; have hcell := HCE.out _ HC.out)
              go_roundw
              case rel => exact ⟨j + 1, by omega, by go_num, by rw [HTT.out], HZ, HC⟩
              case measure => simp [intOf]; omega
          · have HMK := hide (HPRT.out j hjl hq)
            rw [hq] at HIS
            generalize l.getD j ByteArray.empty = part at *
            have hcell := HCE.out _ HC.out
            clear hq hjl hcell0
            go_wp2_with (go_at_call 18; refine (HIS.out _).mono ?_; rintro e w2 ⟨rfl, ho⟩; have HC := hide (HC.out.trans ho); clear ho hcell; have hcell := HCE.out _ HC.out)
            go_ret
            exact makepost HMK.out (HQ.out.trans HC.out)
        · have hge : ¬ (j : Int) < m := by omega
          obtain ⟨T, hT⟩ : ∃ T, S ++ ⟨#[41]⟩ = T := ⟨_, rfl⟩
          have hTT : T = bytesOf (txtL 8 n b l) := by rw [← hT, HS.out, HTX.out, List.take_of_length_le (by have := HM.out; omega)]; exact cat_bytes _ [41]
          have hTs : T.size ≤ 70000001 := by rw [← hT, HS.out, show bytesOf (PRE ++ joinL (l.take j)) ++ ⟨#[41]⟩ = bytesOf (PRE ++ joinL (l.take j) ++ [41]) from cat_bytes _ [41], bytesOf_size, List.length_append]; have := HJB.out; simp only [List.length_cons, List.length_nil]; omega
          have HIS := hide (fun W => isR_all W T (by unfold maxLen; omega))
          unfold RetB at HIS
          have hov : ¬ 9223372036854775807 < S.size + 1 := by omega
          have hkk : ∀ i, i < l.length → (parseV (l.getD i ByteArray.empty)).isSome = true := fun i hi => HK.out i (by have := HM.out; omega)
          rcases Bool.eq_false_or_eq_true (parseV T).isSome with hq | hq
          · have HMK := hide (show makeV 8 n b l = T by rw [hTT]; rw [hTT] at hq; exact HYES.out hkk hq)
            rw [hq] at HIS
            clear hq hTT hkk
            go_wp2_with (go_at_call 18; refine (HIS.out _).mono ?_; rintro e w2 ⟨rfl, ho⟩; have HC := hide (HC.out.trans ho); clear ho)
            go_ret
            exact makepost HMK.out (HQ.out.trans HC.out)
          · have HMK := hide (show makeV 8 n b l = ByteArray.empty by rw [hTT] at hq; exact HNO.out hkk hq)
            rw [hq] at HIS
            clear hq hTT hkk
            go_wp2_with (go_at_call 18; refine (HIS.out _).mono ?_; rintro e w2 ⟨rfl, ho⟩; have HC := hide (HC.out.trans ho); clear ho)
            go_ret
            exact makepost HMK.out (HQ.out.trans HC.out)
    · have hsl : ∀ W, (Instr.sliceAt 9 (.string ⟨#[48, 97, 110, 120, 112, 100, 104, 107, 109, 115, 108]⟩) (some (.int .i64 9)) (some (.int .i64 10)) none).run Tryz.prog W = .ok (.string S0) W := fun W => by rw [hS0]; kernel_rfl
      clear hS0
      go_enter Tryz.func101, Tryz.ntmps101
      go_wp2_with fail
      go_quiet (fail)
      go_wp2_with (go_at_call 128; refine (HPR.out _).mono ?_; rintro e w1 ⟨rfl, ho⟩; have HQ := hide (((Only.refl [] w).drewN nq).trans ho); clear ho)
      have HV := hide (HV0.out.only HQ.out (by simp))
      generalize w1 = wq at *
      have HC := hide (Only.refl [] wq)
      go_loopw [10, 9] (fun i s wr => ∃ j : Nat, j ≤ m ∧ i = .int .i64 j ∧ s = .string (bytesOf (PRE ++ joinL (l.take j))) ∧ Hid (∀ i, i < j → (parseV (l.getD i ByteArray.empty)).isSome = true) ∧ Hid (Only [] wq wr)) (fun i _ _ => m - (intOf i).toNat)
      case atStart => exact ⟨0, Nat.zero_le _, rfl, (by rw [HSP.out]; simp [joinL]), hide (fun i h => absurd h (Nat.not_lt_zero i)), HC⟩
      case round =>
        clear HC
        obtain ⟨j, hj, rfl, rfl, HK, HC⟩ := hrel
        have HJB := hide (show (PRE ++ joinL (l.take j)).length ≤ 70000000 by have h1 := joinL_bound l j HK.out (by rw [← HM.out]; exact hj); have h2 := HHL.out; have h3 := HML.out; rw [List.length_append]; have h4 : j * 65537 ≤ 1000 * 65537 := Nat.mul_le_mul_right _ (Nat.le_trans hj h3); omega)
        obtain ⟨S, hS⟩ : ∃ S, S = bytesOf (PRE ++ joinL (l.take j)) := ⟨_, rfl⟩
        have hSs : S.size ≤ 70000000 := by rw [hS, bytesOf_size]; exact HJB.out
        rw [← hS]
        have HS := hide hS
        clear hS
        by_cases hlt : j < m
        · have hltI : (j : Int) < m := by omega
          have hjl : j < l.length := by rw [← HM.out]; exact hlt
          obtain ⟨g, o, hAA, _, hg, hcell0⟩ := HV.out.at_.2.2.2 j _ (get_txt hjl)
          first | subst hAA | cases hAA
          have HCE := hide (fun W (h : Only [] wq W) => (cell_only h hg (by simp)).trans hcell0)
          have HIS := hide (fun W => isR_all W (l.getD j ByteArray.empty) (HSZ.out _ (get_mem hjl)))
          unfold RetB at HIS
          rcases Bool.eq_false_or_eq_true (parseV (l.getD j ByteArray.empty)).isSome with hq | hq
          · have HZ := hide (show ∀ i, i < j + 1 → (parseV (l.getD i ByteArray.empty)).isSome = true from fun i hi => (Nat.lt_or_eq_of_le (Nat.le_of_lt_succ hi)).elim (HK.out i) (fun h => by rw [h]; exact hq))
            have hps := part_size hq
            have HJ := hide (joinL_take l j hjl)
            rw [hq] at HIS
            generalize l.getD j ByteArray.empty = part at *
            have hcell := HCE.out _ HC.out
            clear hq hjl hcell0
            by_cases h0 : j = 0
            · have hzero : ¬ (0 : Int) < j := by omega
              have hzeroN : ¬ 0 < j := by omega
              obtain ⟨T, hT⟩ : ∃ T, S ++ part = T := ⟨_, rfl⟩
              have HTT := hide (show T = bytesOf (PRE ++ joinL (l.take (j + 1))) by rw [← hT, HS.out, HJ.out, if_pos h0, List.nil_append, cat_part, List.append_assoc])
              have hov : ¬ 9223372036854775807 < S.size + part.size := by omega
              clear h0
              go_wp2_with (go_at_call 18; refine (HIS.out _).mono ?_; rintro e w2 ⟨rfl, ho⟩; have HC := hide (HC.out.trans ho); clear ho hcell; have hcell := HCE.out _ HC.out)
              go_roundw
              case rel => exact ⟨j + 1, by omega, by go_num, by rw [HTT.out], HZ, HC⟩
              case measure => simp [intOf]; omega
            · have hpos : (0 : Int) < j := by omega
              have hposN : 0 < j := by omega
              obtain ⟨U, hU⟩ : ∃ U, S ++ ⟨#[44]⟩ = U := ⟨_, rfl⟩
              obtain ⟨T, hT⟩ : ∃ T, U ++ part = T := ⟨_, rfl⟩
              have hUU : U = bytesOf (PRE ++ joinL (l.take j) ++ [44]) := by rw [← hU, HS.out]; exact cat_bytes _ [44]
              have HTT := hide (show T = bytesOf (PRE ++ joinL (l.take (j + 1))) by rw [← hT, hUU, HJ.out, if_neg h0, cat_part]; simp)
              have hUs : U.size ≤ 70000001 := by rw [hUU, bytesOf_size, List.length_append]; have := HJB.out; simp only [List.length_cons, List.length_nil]; omega
              have hov : ¬ 9223372036854775807 < S.size + 1 := by omega
              have hov2 : ¬ 9223372036854775807 < U.size + part.size := by omega
              clear h0 hUU
              go_wp2_with (go_at_call 18; refine (HIS.out _).mono ?_; rintro e w2 ⟨rfl, ho⟩; have HC := hide (HC.out.trans ho); clear ho hcell; have hcell := HCE.out _ HC.out)
              go_roundw
              case rel => exact ⟨j + 1, by omega, by go_num, by rw [HTT.out], HZ, HC⟩
              case measure => simp [intOf]; omega
          · have HMK := hide (HPRT.out j hjl hq)
            rw [hq] at HIS
            generalize l.getD j ByteArray.empty = part at *
            have hcell := HCE.out _ HC.out
            clear hq hjl hcell0
            go_wp2_with (go_at_call 18; refine (HIS.out _).mono ?_; rintro e w2 ⟨rfl, ho⟩; have HC := hide (HC.out.trans ho); clear ho hcell; have hcell := HCE.out _ HC.out)
            go_ret
            exact makepost HMK.out (HQ.out.trans HC.out)
        · have hge : ¬ (j : Int) < m := by omega
          obtain ⟨T, hT⟩ : ∃ T, S ++ ⟨#[41]⟩ = T := ⟨_, rfl⟩
          have hTT : T = bytesOf (txtL 10 n b l) := by rw [← hT, HS.out, HTX.out, List.take_of_length_le (by have := HM.out; omega)]; exact cat_bytes _ [41]
          have hTs : T.size ≤ 70000001 := by rw [← hT, HS.out, show bytesOf (PRE ++ joinL (l.take j)) ++ ⟨#[41]⟩ = bytesOf (PRE ++ joinL (l.take j) ++ [41]) from cat_bytes _ [41], bytesOf_size, List.length_append]; have := HJB.out; simp only [List.length_cons, List.length_nil]; omega
          have HIS := hide (fun W => isR_all W T (by unfold maxLen; omega))
          unfold RetB at HIS
          have hov : ¬ 9223372036854775807 < S.size + 1 := by omega
          have hkk : ∀ i, i < l.length → (parseV (l.getD i ByteArray.empty)).isSome = true := fun i hi => HK.out i (by have := HM.out; omega)
          rcases Bool.eq_false_or_eq_true (parseV T).isSome with hq | hq
          · have HMK := hide (show makeV 10 n b l = T by rw [hTT]; rw [hTT] at hq; exact HYES.out hkk hq)
            rw [hq] at HIS
            clear hq hTT hkk
            go_wp2_with (go_at_call 18; refine (HIS.out _).mono ?_; rintro e w2 ⟨rfl, ho⟩; have HC := hide (HC.out.trans ho); clear ho)
            go_ret
            exact makepost HMK.out (HQ.out.trans HC.out)
          · have HMK := hide (show makeV 10 n b l = ByteArray.empty by rw [hTT] at hq; exact HNO.out hkk hq)
            rw [hq] at HIS
            clear hq hTT hkk
            go_wp2_with (go_at_call 18; refine (HIS.out _).mono ?_; rintro e w2 ⟨rfl, ho⟩; have HC := hide (HC.out.trans ho); clear ho)
            go_ret
            exact makepost HMK.out (HQ.out.trans HC.out)
  · have hz : l ≠ [] := fun h => hm0 (by rw [HM.out, h]; rfl)
    have HSP := hide (show S3 = bytesOf PRE by rw [hS3, hPRE]; unfold headR; rw [hnb, if_pos rfl, if_neg hz]; simp)
    have hpI : (0 : Int) < m := by omega
    have hpN : 0 < m := by omega
    clear hv hn _hbl hll hsz hm hss hso hsl0 hS1 hPRE hr hm0 hz hD hS2 hS3 hnb
    rcases hk with rfl | rfl
    · have hsl : ∀ W, (Instr.sliceAt 9 (.string ⟨#[48, 97, 110, 120, 112, 100, 104, 107, 109, 115, 108]⟩) (some (.int .i64 7)) (some (.int .i64 8)) none).run Tryz.prog W = .ok (.string S0) W := fun W => by rw [hS0]; kernel_rfl
      clear hS0
      go_enter Tryz.func101, Tryz.ntmps101
      go_wp2_with fail
      go_quiet (fail)
      go_wp2_with (go_at_call 128; refine (HPR.out _).mono ?_; rintro e w1 ⟨rfl, ho⟩; have HQ := hide (((Only.refl [] w).drewN nq).trans ho); clear ho)
      have HV := hide (HV0.out.only HQ.out (by simp))
      generalize w1 = wq at *
      have HC := hide (Only.refl [] wq)
      go_loopw [10, 9] (fun i s wr => ∃ j : Nat, j ≤ m ∧ i = .int .i64 j ∧ s = .string (bytesOf (PRE ++ joinL (l.take j))) ∧ Hid (∀ i, i < j → (parseV (l.getD i ByteArray.empty)).isSome = true) ∧ Hid (Only [] wq wr)) (fun i _ _ => m - (intOf i).toNat)
      case atStart => exact ⟨0, Nat.zero_le _, rfl, (by rw [HSP.out]; simp [joinL]), hide (fun i h => absurd h (Nat.not_lt_zero i)), HC⟩
      case round =>
        clear HC
        obtain ⟨j, hj, rfl, rfl, HK, HC⟩ := hrel
        have HJB := hide (show (PRE ++ joinL (l.take j)).length ≤ 70000000 by have h1 := joinL_bound l j HK.out (by rw [← HM.out]; exact hj); have h2 := HHL.out; have h3 := HML.out; rw [List.length_append]; have h4 : j * 65537 ≤ 1000 * 65537 := Nat.mul_le_mul_right _ (Nat.le_trans hj h3); omega)
        obtain ⟨S, hS⟩ : ∃ S, S = bytesOf (PRE ++ joinL (l.take j)) := ⟨_, rfl⟩
        have hSs : S.size ≤ 70000000 := by rw [hS, bytesOf_size]; exact HJB.out
        rw [← hS]
        have HS := hide hS
        clear hS
        by_cases hlt : j < m
        · have hltI : (j : Int) < m := by omega
          have hjl : j < l.length := by rw [← HM.out]; exact hlt
          obtain ⟨g, o, hAA, _, hg, hcell0⟩ := HV.out.at_.2.2.2 j _ (get_txt hjl)
          first | subst hAA | cases hAA
          have HCE := hide (fun W (h : Only [] wq W) => (cell_only h hg (by simp)).trans hcell0)
          have HIS := hide (fun W => isR_all W (l.getD j ByteArray.empty) (HSZ.out _ (get_mem hjl)))
          unfold RetB at HIS
          rcases Bool.eq_false_or_eq_true (parseV (l.getD j ByteArray.empty)).isSome with hq | hq
          · have HZ := hide (show ∀ i, i < j + 1 → (parseV (l.getD i ByteArray.empty)).isSome = true from fun i hi => (Nat.lt_or_eq_of_le (Nat.le_of_lt_succ hi)).elim (HK.out i) (fun h => by rw [h]; exact hq))
            have hps := part_size hq
            have HJ := hide (joinL_take l j hjl)
            rw [hq] at HIS
            generalize l.getD j ByteArray.empty = part at *
            have hcell := HCE.out _ HC.out
            clear hq hjl hcell0
            by_cases h0 : j = 0
            · have hzero : ¬ (0 : Int) < j := by omega
              have hzeroN : ¬ 0 < j := by omega
              obtain ⟨T, hT⟩ : ∃ T, S ++ part = T := ⟨_, rfl⟩
              have HTT := hide (show T = bytesOf (PRE ++ joinL (l.take (j + 1))) by rw [← hT, HS.out, HJ.out, if_pos h0, List.nil_append, cat_part, List.append_assoc])
              have hov : ¬ 9223372036854775807 < S.size + part.size := by omega
              clear h0
              go_wp2_with (go_at_call 18; refine (HIS.out _).mono ?_; rintro e w2 ⟨rfl, ho⟩; have HC := hide (HC.out.trans ho); clear ho hcell; have hcell := HCE.out _ HC.out)
              go_roundw
              case rel => exact ⟨j + 1, by omega, by go_num, by rw [HTT.out], HZ, HC⟩
              case measure => simp [intOf]; omega
            · have hpos : (0 : Int) < j := by omega
              have hposN : 0 < j := by omega
              obtain ⟨U, hU⟩ : ∃ U, S ++ ⟨#[44]⟩ = U := ⟨_, rfl⟩
              obtain ⟨T, hT⟩ : ∃ T, U ++ part = T := ⟨_, rfl⟩
              have hUU : U = bytesOf (PRE ++ joinL (l.take j) ++ [44]) := by rw [← hU, HS.out]; exact cat_bytes _ [44]
              have HTT := hide (show T = bytesOf (PRE ++ joinL (l.take (j + 1))) by rw [← hT, hUU, HJ.out, if_neg h0, cat_part]; simp)
              have hUs : U.size ≤ 70000001 := by rw [hUU, bytesOf_size, List.length_append]; have := HJB.out; simp only [List.length_cons, List.length_nil]; omega
              have hov : ¬ 9223372036854775807 < S.size + 1 := by omega
              have hov2 : ¬ 9223372036854775807 < U.size + part.size := by omega
              clear h0 hUU
              go_wp2_with (go_at_call 18; refine (HIS.out _).mono ?_; rintro e w2 ⟨rfl, ho⟩; have HC := hide (HC.out.trans ho); clear ho hcell; have hcell := HCE.out _ HC.out)
              go_roundw
              case rel => exact ⟨j + 1, by omega, by go_num, by rw [HTT.out], HZ, HC⟩
              case measure => simp [intOf]; omega
          · have HMK := hide (HPRT.out j hjl hq)
            rw [hq] at HIS
            generalize l.getD j ByteArray.empty = part at *
            have hcell := HCE.out _ HC.out
            clear hq hjl hcell0
            go_wp2_with (go_at_call 18; refine (HIS.out _).mono ?_; rintro e w2 ⟨rfl, ho⟩; have HC := hide (HC.out.trans ho); clear ho hcell; have hcell := HCE.out _ HC.out)
            go_ret
            exact makepost HMK.out (HQ.out.trans HC.out)
        · have hge : ¬ (j : Int) < m := by omega
          obtain ⟨T, hT⟩ : ∃ T, S ++ ⟨#[41]⟩ = T := ⟨_, rfl⟩
          have hTT : T = bytesOf (txtL 8 n b l) := by rw [← hT, HS.out, HTX.out, List.take_of_length_le (by have := HM.out; omega)]; exact cat_bytes _ [41]
          have hTs : T.size ≤ 70000001 := by rw [← hT, HS.out, show bytesOf (PRE ++ joinL (l.take j)) ++ ⟨#[41]⟩ = bytesOf (PRE ++ joinL (l.take j) ++ [41]) from cat_bytes _ [41], bytesOf_size, List.length_append]; have := HJB.out; simp only [List.length_cons, List.length_nil]; omega
          have HIS := hide (fun W => isR_all W T (by unfold maxLen; omega))
          unfold RetB at HIS
          have hov : ¬ 9223372036854775807 < S.size + 1 := by omega
          have hkk : ∀ i, i < l.length → (parseV (l.getD i ByteArray.empty)).isSome = true := fun i hi => HK.out i (by have := HM.out; omega)
          rcases Bool.eq_false_or_eq_true (parseV T).isSome with hq | hq
          · have HMK := hide (show makeV 8 n b l = T by rw [hTT]; rw [hTT] at hq; exact HYES.out hkk hq)
            rw [hq] at HIS
            clear hq hTT hkk
            go_wp2_with (go_at_call 18; refine (HIS.out _).mono ?_; rintro e w2 ⟨rfl, ho⟩; have HC := hide (HC.out.trans ho); clear ho)
            go_ret
            exact makepost HMK.out (HQ.out.trans HC.out)
          · have HMK := hide (show makeV 8 n b l = ByteArray.empty by rw [hTT] at hq; exact HNO.out hkk hq)
            rw [hq] at HIS
            clear hq hTT hkk
            go_wp2_with (go_at_call 18; refine (HIS.out _).mono ?_; rintro e w2 ⟨rfl, ho⟩; have HC := hide (HC.out.trans ho); clear ho)
            go_ret
            exact makepost HMK.out (HQ.out.trans HC.out)
    · have hsl : ∀ W, (Instr.sliceAt 9 (.string ⟨#[48, 97, 110, 120, 112, 100, 104, 107, 109, 115, 108]⟩) (some (.int .i64 9)) (some (.int .i64 10)) none).run Tryz.prog W = .ok (.string S0) W := fun W => by rw [hS0]; kernel_rfl
      clear hS0
      go_enter Tryz.func101, Tryz.ntmps101
      go_wp2_with fail
      go_quiet (fail)
      go_wp2_with (go_at_call 128; refine (HPR.out _).mono ?_; rintro e w1 ⟨rfl, ho⟩; have HQ := hide (((Only.refl [] w).drewN nq).trans ho); clear ho)
      have HV := hide (HV0.out.only HQ.out (by simp))
      generalize w1 = wq at *
      have HC := hide (Only.refl [] wq)
      go_loopw [10, 9] (fun i s wr => ∃ j : Nat, j ≤ m ∧ i = .int .i64 j ∧ s = .string (bytesOf (PRE ++ joinL (l.take j))) ∧ Hid (∀ i, i < j → (parseV (l.getD i ByteArray.empty)).isSome = true) ∧ Hid (Only [] wq wr)) (fun i _ _ => m - (intOf i).toNat)
      case atStart => exact ⟨0, Nat.zero_le _, rfl, (by rw [HSP.out]; simp [joinL]), hide (fun i h => absurd h (Nat.not_lt_zero i)), HC⟩
      case round =>
        clear HC
        obtain ⟨j, hj, rfl, rfl, HK, HC⟩ := hrel
        have HJB := hide (show (PRE ++ joinL (l.take j)).length ≤ 70000000 by have h1 := joinL_bound l j HK.out (by rw [← HM.out]; exact hj); have h2 := HHL.out; have h3 := HML.out; rw [List.length_append]; have h4 : j * 65537 ≤ 1000 * 65537 := Nat.mul_le_mul_right _ (Nat.le_trans hj h3); omega)
        obtain ⟨S, hS⟩ : ∃ S, S = bytesOf (PRE ++ joinL (l.take j)) := ⟨_, rfl⟩
        have hSs : S.size ≤ 70000000 := by rw [hS, bytesOf_size]; exact HJB.out
        rw [← hS]
        have HS := hide hS
        clear hS
        by_cases hlt : j < m
        · have hltI : (j : Int) < m := by omega
          have hjl : j < l.length := by rw [← HM.out]; exact hlt
          obtain ⟨g, o, hAA, _, hg, hcell0⟩ := HV.out.at_.2.2.2 j _ (get_txt hjl)
          first | subst hAA | cases hAA
          have HCE := hide (fun W (h : Only [] wq W) => (cell_only h hg (by simp)).trans hcell0)
          have HIS := hide (fun W => isR_all W (l.getD j ByteArray.empty) (HSZ.out _ (get_mem hjl)))
          unfold RetB at HIS
          rcases Bool.eq_false_or_eq_true (parseV (l.getD j ByteArray.empty)).isSome with hq | hq
          · have HZ := hide (show ∀ i, i < j + 1 → (parseV (l.getD i ByteArray.empty)).isSome = true from fun i hi => (Nat.lt_or_eq_of_le (Nat.le_of_lt_succ hi)).elim (HK.out i) (fun h => by rw [h]; exact hq))
            have hps := part_size hq
            have HJ := hide (joinL_take l j hjl)
            rw [hq] at HIS
            generalize l.getD j ByteArray.empty = part at *
            have hcell := HCE.out _ HC.out
            clear hq hjl hcell0
            by_cases h0 : j = 0
            · have hzero : ¬ (0 : Int) < j := by omega
              have hzeroN : ¬ 0 < j := by omega
              obtain ⟨T, hT⟩ : ∃ T, S ++ part = T := ⟨_, rfl⟩
              have HTT := hide (show T = bytesOf (PRE ++ joinL (l.take (j + 1))) by rw [← hT, HS.out, HJ.out, if_pos h0, List.nil_append, cat_part, List.append_assoc])
              have hov : ¬ 9223372036854775807 < S.size + part.size := by omega
              clear h0
              go_wp2_with (go_at_call 18; refine (HIS.out _).mono ?_; rintro e w2 ⟨rfl, ho⟩; have HC := hide (HC.out.trans ho); clear ho hcell; have hcell := HCE.out _ HC.out)
              go_roundw
              case rel => exact ⟨j + 1, by omega, by go_num, by rw [HTT.out], HZ, HC⟩
              case measure => simp [intOf]; omega
            · have hpos : (0 : Int) < j := by omega
              have hposN : 0 < j := by omega
              obtain ⟨U, hU⟩ : ∃ U, S ++ ⟨#[44]⟩ = U := ⟨_, rfl⟩
              obtain ⟨T, hT⟩ : ∃ T, U ++ part = T := ⟨_, rfl⟩
              have hUU : U = bytesOf (PRE ++ joinL (l.take j) ++ [44]) := by rw [← hU, HS.out]; exact cat_bytes _ [44]
              have HTT := hide (show T = bytesOf (PRE ++ joinL (l.take (j + 1))) by rw [← hT, hUU, HJ.out, if_neg h0, cat_part]; simp)
              have hUs : U.size ≤ 70000001 := by rw [hUU, bytesOf_size, List.length_append]; have := HJB.out; simp only [List.length_cons, List.length_nil]; omega
              have hov : ¬ 9223372036854775807 < S.size + 1 := by omega
              have hov2 : ¬ 9223372036854775807 < U.size + part.size := by omega
              clear h0 hUU
              go_wp2_with (go_at_call 18; refine (HIS.out _).mono ?_; rintro e w2 ⟨rfl, ho⟩; have HC := hide (HC.out.trans ho); clear ho hcell; have hcell := HCE.out _ HC.out)
              go_roundw
              case rel => exact ⟨j + 1, by omega, by go_num, by rw [HTT.out], HZ, HC⟩
              case measure => simp [intOf]; omega
          · have HMK := hide (HPRT.out j hjl hq)
            rw [hq] at HIS
            generalize l.getD j ByteArray.empty = part at *
            have hcell := HCE.out _ HC.out
            clear hq hjl hcell0
            go_wp2_with (go_at_call 18; refine (HIS.out _).mono ?_; rintro e w2 ⟨rfl, ho⟩; have HC := hide (HC.out.trans ho); clear ho hcell; have hcell := HCE.out _ HC.out)
            go_ret
            exact makepost HMK.out (HQ.out.trans HC.out)
        · have hge : ¬ (j : Int) < m := by omega
          obtain ⟨T, hT⟩ : ∃ T, S ++ ⟨#[41]⟩ = T := ⟨_, rfl⟩
          have hTT : T = bytesOf (txtL 10 n b l) := by rw [← hT, HS.out, HTX.out, List.take_of_length_le (by have := HM.out; omega)]; exact cat_bytes _ [41]
          have hTs : T.size ≤ 70000001 := by rw [← hT, HS.out, show bytesOf (PRE ++ joinL (l.take j)) ++ ⟨#[41]⟩ = bytesOf (PRE ++ joinL (l.take j) ++ [41]) from cat_bytes _ [41], bytesOf_size, List.length_append]; have := HJB.out; simp only [List.length_cons, List.length_nil]; omega
          have HIS := hide (fun W => isR_all W T (by unfold maxLen; omega))
          unfold RetB at HIS
          have hov : ¬ 9223372036854775807 < S.size + 1 := by omega
          have hkk : ∀ i, i < l.length → (parseV (l.getD i ByteArray.empty)).isSome = true := fun i hi => HK.out i (by have := HM.out; omega)
          rcases Bool.eq_false_or_eq_true (parseV T).isSome with hq | hq
          · have HMK := hide (show makeV 10 n b l = T by rw [hTT]; rw [hTT] at hq; exact HYES.out hkk hq)
            rw [hq] at HIS
            clear hq hTT hkk
            go_wp2_with (go_at_call 18; refine (HIS.out _).mono ?_; rintro e w2 ⟨rfl, ho⟩; have HC := hide (HC.out.trans ho); clear ho)
            go_ret
            exact makepost HMK.out (HQ.out.trans HC.out)
          · have HMK := hide (show makeV 10 n b l = ByteArray.empty by rw [hTT] at hq; exact HNO.out hkk hq)
            rw [hq] at HIS
            clear hq hTT hkk
            go_wp2_with (go_at_call 18; refine (HIS.out _).mono ?_; rintro e w2 ⟨rfl, ho⟩; have HC := hide (HC.out.trans ho); clear ho)
            go_ret
            exact makepost HMK.out (HQ.out.trans HC.out)

set_option maxRecDepth 100000 in
set_option maxHeartbeats 12800000 in
theorem makeR_six (k : Int) (hk : k = 6) (n : Nat) (hn : n < 18446744073709551616) (bv lv : Value) (b : List UInt8) (_hbl : b.length ≤ 100000) (l : List ByteArray) (hll : l.length ≤ 1000) (hw : ¬ wrong k l) (hsz : ∀ p ∈ l, p.size ≤ maxLen) (w : World)
    (hv : Rd w [] lv (strs l)) :
    Calls Tryz.prog 101 #[.int .i64 k, .int .u64 n, bv, lv] w (MakePost (makeV k n b l) w) := by
  have hr : 1 ≤ k ∧ k ≤ 11 := by omega
  have HYES := hide (fun hp hs => makeR_yes (k := k) (n := n) (b := b) (l := l) hr hn (fun h => by omega) hp hs)
  have HNO := hide (fun hp hs => makeR_no (k := k) (n := n) (b := b) (l := l) hr hn (fun h => by omega) hp hs)
  have HPRT := hide (fun (i : Nat) hi h => makeR_part (k := k) (n := n) (b := b) (l := l) (i := i) hi h)
  have HHL := hide (headR_len k n hn (sortV k l))
  have HTX := hide (txt_headR k n b (sortV k l) (by omega))
  have hss := sort_mem k l
  have HSZ := hide (show ∀ p ∈ sortV k l, p.size ≤ maxLen from fun p hp => hsz p ((hss p).1 hp))
  have hsl0 := sort_len k l
  have hso : sortV k l = l := by unfold sortV; rw [if_neg hw]
  rw [hso] at HYES HNO HPRT HHL HTX HSZ
  obtain ⟨A, cap, rfl, hc1, hc2⟩ := hv.form
  unfold maxLen at hc2
  rw [strs_length] at hv hc1 ⊢
  obtain ⟨m, hm⟩ : ∃ m, m = l.length := ⟨_, rfl⟩
  have HM := hide hm
  have HML := hide (show m ≤ 1000 by rw [hm]; exact hll)
  rw [← hm] at hv hc1 ⊢
  have HV0 := hide hv
  obtain ⟨PRE, hPRE⟩ : ∃ P, P = headR k n l := ⟨_, rfl⟩
  rw [← hPRE] at HHL HTX
  obtain ⟨S0, hS0⟩ : ∃ S, S = bytesOf [letU k] := ⟨_, rfl⟩
  obtain ⟨S1, hS1⟩ : ∃ S, S = bytesOf [letU k, 40] := ⟨_, rfl⟩
  have e1 : S0 ++ ⟨#[40]⟩ = S1 := by rw [hS0, hS1]; exact cat_bytes [letU k] [40]
  have hov1 : ¬ 9223372036854775807 < S0.size + 1 := by rw [hS0, bytesOf_size]; simp
  have hs1 : S1.size = 2 := by rw [hS1, bytesOf_size]; rfl
  have HSP := hide (show S1 = bytesOf PRE by rw [hS1, hPRE]; unfold headR; rw [show numberedV k = false by rw [hk]; decide, if_neg (by decide)])
  by_cases h2 : m = 2
  · obtain ⟨p, q, hpq⟩ := two_list (l := l) (by rw [← HM.out]; exact h2)
    obtain ⟨g0, o0, hA, _, hcell00⟩ := rd_strs (show Rd w [] (.slice A m cap) (strs [p, q]) by rw [← hpq]; exact HV0.out) (by simp)
    subst hA
    have d0 : w.cell? ⟨g0, o0, none⟩ = some (.string p) := hcell00 0 (by simp)
    have d1 : w.cell? ⟨g0, o0 + 1, none⟩ = some (.string q) := hcell00 1 (by simp)
    have hgt : gtB p q = false := by
      rw [Bool.eq_false_iff]
      intro h
      rw [hpq] at hw
      exact hw ⟨hk, rfl, h⟩
    unfold gtB at hgt
    clear hv hn _hbl hll hsz hm hss hso hsl0 hS1 hPRE hr hw hpq hcell00
    subst hk h2
    have hsl : ∀ W, (Instr.sliceAt 9 (.string ⟨#[48, 97, 110, 120, 112, 100, 104, 107, 109, 115, 108]⟩) (some (.int .i64 5)) (some (.int .i64 6)) none).run Tryz.prog W = .ok (.string S0) W := fun W => by rw [hS0]; kernel_rfl
    clear hS0
    go_enter Tryz.func101, Tryz.ntmps101
    go_wp2_with fail
    go_quiet (fail)
    go_wp2_with fail
    have HQ := hide ((Only.refl [] w).drewN nq)
    have HV := hide (HV0.out.only HQ.out (by simp))
    generalize w.drewN nq = wq at *
    clear d0 d1
    have HC := hide (Only.refl [] wq)
    go_loopw [10, 9] (fun i s wr => ∃ j : Nat, j ≤ 2 ∧ i = .int .i64 j ∧ s = .string (bytesOf (PRE ++ joinL (l.take j))) ∧ Hid (∀ i, i < j → (parseV (l.getD i ByteArray.empty)).isSome = true) ∧ Hid (Only [] wq wr)) (fun i _ _ => 2 - (intOf i).toNat)
    case atStart => exact ⟨0, Nat.zero_le _, rfl, (by rw [HSP.out]; simp [joinL]), hide (fun i h => absurd h (Nat.not_lt_zero i)), HC⟩
    case round =>
      clear HC
      obtain ⟨j, hj, rfl, rfl, HK, HC⟩ := hrel
      have HJB := hide (show (PRE ++ joinL (l.take j)).length ≤ 70000000 by have h1 := joinL_bound l j HK.out (by rw [← HM.out]; exact hj); have h2 := HHL.out; have h3 := HML.out; rw [List.length_append]; have h4 : j * 65537 ≤ 1000 * 65537 := Nat.mul_le_mul_right _ (Nat.le_trans hj h3); omega)
      obtain ⟨S, hS⟩ : ∃ S, S = bytesOf (PRE ++ joinL (l.take j)) := ⟨_, rfl⟩
      have hSs : S.size ≤ 70000000 := by rw [hS, bytesOf_size]; exact HJB.out
      rw [← hS]
      have HS := hide hS
      clear hS
      by_cases hlt : j < 2
      · have hltI : (j : Int) < 2 := by omega
        have hjl : j < l.length := by rw [← HM.out]; exact hlt
        obtain ⟨g, o, hAA, _, hg, hcell0⟩ := HV.out.at_.2.2.2 j _ (get_txt hjl)
        first | subst hAA | cases hAA
        have HCE := hide (fun W (h : Only [] wq W) => (cell_only h hg (by simp)).trans hcell0)
        have HIS := hide (fun W => isR_all W (l.getD j ByteArray.empty) (HSZ.out _ (get_mem hjl)))
        unfold RetB at HIS
        rcases Bool.eq_false_or_eq_true (parseV (l.getD j ByteArray.empty)).isSome with hq | hq
        · have HZ := hide (show ∀ i, i < j + 1 → (parseV (l.getD i ByteArray.empty)).isSome = true from fun i hi => (Nat.lt_or_eq_of_le (Nat.le_of_lt_succ hi)).elim (HK.out i) (fun h => by rw [h]; exact hq))
          have hps := part_size hq
          have HJ := hide (joinL_take l j hjl)
          rw [hq] at HIS
          generalize l.getD j ByteArray.empty = part at *
          have hcell := HCE.out _ HC.out
          clear hq hjl hcell0
          by_cases h0 : j = 0
          · have hzero : ¬ (0 : Int) < j := by omega
            have hzeroN : ¬ 0 < j := by omega
            obtain ⟨T, hT⟩ : ∃ T, S ++ part = T := ⟨_, rfl⟩
            have HTT := hide (show T = bytesOf (PRE ++ joinL (l.take (j + 1))) by rw [← hT, HS.out, HJ.out, if_pos h0, List.nil_append, cat_part, List.append_assoc])
            have hov : ¬ 9223372036854775807 < S.size + part.size := by omega
            clear h0
            go_wp2_with (go_at_call 18; refine (HIS.out _).mono ?_; rintro e w2 ⟨rfl, ho⟩; have HC := hide (HC.out.trans ho); clear ho hcell; have hcell := HCE.out _ HC.out)
            go_roundw
            case rel => exact ⟨j + 1, by omega, by go_num, by rw [HTT.out], HZ, HC⟩
            case measure => simp [intOf]; omega
          · have hpos : (0 : Int) < j := by omega
            have hposN : 0 < j := by omega
            obtain ⟨U, hU⟩ : ∃ U, S ++ ⟨#[44]⟩ = U := ⟨_, rfl⟩
            obtain ⟨T, hT⟩ : ∃ T, U ++ part = T := ⟨_, rfl⟩
            have hUU : U = bytesOf (PRE ++ joinL (l.take j) ++ [44]) := by rw [← hU, HS.out]; exact cat_bytes _ [44]
            have HTT := hide (show T = bytesOf (PRE ++ joinL (l.take (j + 1))) by rw [← hT, hUU, HJ.out, if_neg h0, cat_part]; simp)
            have hUs : U.size ≤ 70000001 := by rw [hUU, bytesOf_size, List.length_append]; have := HJB.out; simp only [List.length_cons, List.length_nil]; omega
            have hov : ¬ 9223372036854775807 < S.size + 1 := by omega
            have hov2 : ¬ 9223372036854775807 < U.size + part.size := by omega
            clear h0 hUU
            go_wp2_with (go_at_call 18; refine (HIS.out _).mono ?_; rintro e w2 ⟨rfl, ho⟩; have HC := hide (HC.out.trans ho); clear ho hcell; have hcell := HCE.out _ HC.out)
            go_roundw
            case rel => exact ⟨j + 1, by omega, by go_num, by rw [HTT.out], HZ, HC⟩
            case measure => simp [intOf]; omega
        · have HMK := hide (HPRT.out j hjl hq)
          rw [hq] at HIS
          generalize l.getD j ByteArray.empty = part at *
          have hcell := HCE.out _ HC.out
          clear hq hjl hcell0
          go_wp2_with (go_at_call 18; refine (HIS.out _).mono ?_; rintro e w2 ⟨rfl, ho⟩; have HC := hide (HC.out.trans ho); clear ho hcell; have hcell := HCE.out _ HC.out)
          go_ret
          exact makepost HMK.out (HQ.out.trans HC.out)
      · have hge : ¬ (j : Int) < 2 := by omega
        obtain ⟨T, hT⟩ : ∃ T, S ++ ⟨#[41]⟩ = T := ⟨_, rfl⟩
        have hTT : T = bytesOf (txtL 6 n b l) := by rw [← hT, HS.out, HTX.out, List.take_of_length_le (by have := HM.out; omega)]; exact cat_bytes _ [41]
        have hTs : T.size ≤ 70000001 := by rw [← hT, HS.out, show bytesOf (PRE ++ joinL (l.take j)) ++ ⟨#[41]⟩ = bytesOf (PRE ++ joinL (l.take j) ++ [41]) from cat_bytes _ [41], bytesOf_size, List.length_append]; have := HJB.out; simp only [List.length_cons, List.length_nil]; omega
        have HIS := hide (fun W => isR_all W T (by unfold maxLen; omega))
        unfold RetB at HIS
        have hov : ¬ 9223372036854775807 < S.size + 1 := by omega
        have hkk : ∀ i, i < l.length → (parseV (l.getD i ByteArray.empty)).isSome = true := fun i hi => HK.out i (by have := HM.out; omega)
        rcases Bool.eq_false_or_eq_true (parseV T).isSome with hq | hq
        · have HMK := hide (show makeV 6 n b l = T by rw [hTT]; rw [hTT] at hq; exact HYES.out hkk hq)
          rw [hq] at HIS
          clear hq hTT hkk
          go_wp2_with (go_at_call 18; refine (HIS.out _).mono ?_; rintro e w2 ⟨rfl, ho⟩; have HC := hide (HC.out.trans ho); clear ho)
          go_ret
          exact makepost HMK.out (HQ.out.trans HC.out)
        · have HMK := hide (show makeV 6 n b l = ByteArray.empty by rw [hTT] at hq; exact HNO.out hkk hq)
          rw [hq] at HIS
          clear hq hTT hkk
          go_wp2_with (go_at_call 18; refine (HIS.out _).mono ?_; rintro e w2 ⟨rfl, ho⟩; have HC := hide (HC.out.trans ho); clear ho)
          go_ret
          exact makepost HMK.out (HQ.out.trans HC.out)
  · have h2I : ((m : Int) == 2) = false := by rw [beq_eq_false_iff_ne]; omega
    clear hv hn _hbl hll hsz hm hss hso hsl0 hS1 hPRE hr hw h2
    subst hk
    have hsl : ∀ W, (Instr.sliceAt 9 (.string ⟨#[48, 97, 110, 120, 112, 100, 104, 107, 109, 115, 108]⟩) (some (.int .i64 5)) (some (.int .i64 6)) none).run Tryz.prog W = .ok (.string S0) W := fun W => by rw [hS0]; kernel_rfl
    clear hS0
    go_enter Tryz.func101, Tryz.ntmps101
    go_wp2_with fail
    go_quiet (fail)
    go_wp2_with fail
    have HQ := hide ((Only.refl [] w).drewN nq)
    have HV := hide (HV0.out.only HQ.out (by simp))
    generalize w.drewN nq = wq at *
    have HC := hide (Only.refl [] wq)
    go_loopw [10, 9] (fun i s wr => ∃ j : Nat, j ≤ m ∧ i = .int .i64 j ∧ s = .string (bytesOf (PRE ++ joinL (l.take j))) ∧ Hid (∀ i, i < j → (parseV (l.getD i ByteArray.empty)).isSome = true) ∧ Hid (Only [] wq wr)) (fun i _ _ => m - (intOf i).toNat)
    case atStart => exact ⟨0, Nat.zero_le _, rfl, (by rw [HSP.out]; simp [joinL]), hide (fun i h => absurd h (Nat.not_lt_zero i)), HC⟩
    case round =>
      clear HC
      obtain ⟨j, hj, rfl, rfl, HK, HC⟩ := hrel
      have HJB := hide (show (PRE ++ joinL (l.take j)).length ≤ 70000000 by have h1 := joinL_bound l j HK.out (by rw [← HM.out]; exact hj); have h2 := HHL.out; have h3 := HML.out; rw [List.length_append]; have h4 : j * 65537 ≤ 1000 * 65537 := Nat.mul_le_mul_right _ (Nat.le_trans hj h3); omega)
      obtain ⟨S, hS⟩ : ∃ S, S = bytesOf (PRE ++ joinL (l.take j)) := ⟨_, rfl⟩
      have hSs : S.size ≤ 70000000 := by rw [hS, bytesOf_size]; exact HJB.out
      rw [← hS]
      have HS := hide hS
      clear hS
      by_cases hlt : j < m
      · have hltI : (j : Int) < m := by omega
        have hjl : j < l.length := by rw [← HM.out]; exact hlt
        obtain ⟨g, o, hAA, _, hg, hcell0⟩ := HV.out.at_.2.2.2 j _ (get_txt hjl)
        first | subst hAA | cases hAA
        have HCE := hide (fun W (h : Only [] wq W) => (cell_only h hg (by simp)).trans hcell0)
        have HIS := hide (fun W => isR_all W (l.getD j ByteArray.empty) (HSZ.out _ (get_mem hjl)))
        unfold RetB at HIS
        rcases Bool.eq_false_or_eq_true (parseV (l.getD j ByteArray.empty)).isSome with hq | hq
        · have HZ := hide (show ∀ i, i < j + 1 → (parseV (l.getD i ByteArray.empty)).isSome = true from fun i hi => (Nat.lt_or_eq_of_le (Nat.le_of_lt_succ hi)).elim (HK.out i) (fun h => by rw [h]; exact hq))
          have hps := part_size hq
          have HJ := hide (joinL_take l j hjl)
          rw [hq] at HIS
          generalize l.getD j ByteArray.empty = part at *
          have hcell := HCE.out _ HC.out
          clear hq hjl hcell0
          by_cases h0 : j = 0
          · have hzero : ¬ (0 : Int) < j := by omega
            have hzeroN : ¬ 0 < j := by omega
            obtain ⟨T, hT⟩ : ∃ T, S ++ part = T := ⟨_, rfl⟩
            have HTT := hide (show T = bytesOf (PRE ++ joinL (l.take (j + 1))) by rw [← hT, HS.out, HJ.out, if_pos h0, List.nil_append, cat_part, List.append_assoc])
            have hov : ¬ 9223372036854775807 < S.size + part.size := by omega
            clear h0
            go_wp2_with (go_at_call 18; refine (HIS.out _).mono ?_; rintro e w2 ⟨rfl, ho⟩; have HC := hide (HC.out.trans ho); clear ho hcell; have hcell := HCE.out _ HC.out)
            go_roundw
            case rel => exact ⟨j + 1, by omega, by go_num, by rw [HTT.out], HZ, HC⟩
            case measure => simp [intOf]; omega
          · have hpos : (0 : Int) < j := by omega
            have hposN : 0 < j := by omega
            obtain ⟨U, hU⟩ : ∃ U, S ++ ⟨#[44]⟩ = U := ⟨_, rfl⟩
            obtain ⟨T, hT⟩ : ∃ T, U ++ part = T := ⟨_, rfl⟩
            have hUU : U = bytesOf (PRE ++ joinL (l.take j) ++ [44]) := by rw [← hU, HS.out]; exact cat_bytes _ [44]
            have HTT := hide (show T = bytesOf (PRE ++ joinL (l.take (j + 1))) by rw [← hT, hUU, HJ.out, if_neg h0, cat_part]; simp)
            have hUs : U.size ≤ 70000001 := by rw [hUU, bytesOf_size, List.length_append]; have := HJB.out; simp only [List.length_cons, List.length_nil]; omega
            have hov : ¬ 9223372036854775807 < S.size + 1 := by omega
            have hov2 : ¬ 9223372036854775807 < U.size + part.size := by omega
            clear h0 hUU
            go_wp2_with (go_at_call 18; refine (HIS.out _).mono ?_; rintro e w2 ⟨rfl, ho⟩; have HC := hide (HC.out.trans ho); clear ho hcell; have hcell := HCE.out _ HC.out)
            go_roundw
            case rel => exact ⟨j + 1, by omega, by go_num, by rw [HTT.out], HZ, HC⟩
            case measure => simp [intOf]; omega
        · have HMK := hide (HPRT.out j hjl hq)
          rw [hq] at HIS
          generalize l.getD j ByteArray.empty = part at *
          have hcell := HCE.out _ HC.out
          clear hq hjl hcell0
          go_wp2_with (go_at_call 18; refine (HIS.out _).mono ?_; rintro e w2 ⟨rfl, ho⟩; have HC := hide (HC.out.trans ho); clear ho hcell; have hcell := HCE.out _ HC.out)
          go_ret
          exact makepost HMK.out (HQ.out.trans HC.out)
      · have hge : ¬ (j : Int) < m := by omega
        obtain ⟨T, hT⟩ : ∃ T, S ++ ⟨#[41]⟩ = T := ⟨_, rfl⟩
        have hTT : T = bytesOf (txtL 6 n b l) := by rw [← hT, HS.out, HTX.out, List.take_of_length_le (by have := HM.out; omega)]; exact cat_bytes _ [41]
        have hTs : T.size ≤ 70000001 := by rw [← hT, HS.out, show bytesOf (PRE ++ joinL (l.take j)) ++ ⟨#[41]⟩ = bytesOf (PRE ++ joinL (l.take j) ++ [41]) from cat_bytes _ [41], bytesOf_size, List.length_append]; have := HJB.out; simp only [List.length_cons, List.length_nil]; omega
        have HIS := hide (fun W => isR_all W T (by unfold maxLen; omega))
        unfold RetB at HIS
        have hov : ¬ 9223372036854775807 < S.size + 1 := by omega
        have hkk : ∀ i, i < l.length → (parseV (l.getD i ByteArray.empty)).isSome = true := fun i hi => HK.out i (by have := HM.out; omega)
        rcases Bool.eq_false_or_eq_true (parseV T).isSome with hq | hq
        · have HMK := hide (show makeV 6 n b l = T by rw [hTT]; rw [hTT] at hq; exact HYES.out hkk hq)
          rw [hq] at HIS
          clear hq hTT hkk
          go_wp2_with (go_at_call 18; refine (HIS.out _).mono ?_; rintro e w2 ⟨rfl, ho⟩; have HC := hide (HC.out.trans ho); clear ho)
          go_ret
          exact makepost HMK.out (HQ.out.trans HC.out)
        · have HMK := hide (show makeV 6 n b l = ByteArray.empty by rw [hTT] at hq; exact HNO.out hkk hq)
          rw [hq] at HIS
          clear hq hTT hkk
          go_wp2_with (go_at_call 18; refine (HIS.out _).mono ?_; rintro e w2 ⟨rfl, ho⟩; have HC := hide (HC.out.trans ho); clear ho)
          go_ret
          exact makepost HMK.out (HQ.out.trans HC.out)

set_option maxRecDepth 100000 in
set_option maxHeartbeats 12800000 in
theorem makeR_wrong (n : Nat) (hn : n < 18446744073709551616) (bv lv : Value) (b : List UInt8) (p q : ByteArray) (hsz : ∀ x ∈ [p, q], x.size ≤ maxLen) (hgt : gtB p q = true) (w : World)
    (hv : Rd w [] lv (strs [p, q])) :
    Calls Tryz.prog 101 #[.int .i64 6, .int .u64 n, bv, lv] w (MakePost (makeV 6 n b [p, q]) w) := by
  have hr : 1 ≤ (6 : Int) ∧ (6 : Int) ≤ 11 := by omega
  have hso : sortV 6 [p, q] = [q, p] := by unfold sortV; rw [if_pos (show wrong 6 [p, q] from ⟨rfl, rfl, hgt⟩)]; rfl
  have HYES := hide (fun hp hs => makeR_yes (k := 6) (n := n) (b := b) (l := [p, q]) hr hn (fun h => by omega) hp hs)
  have HNO := hide (fun hp hs => makeR_no (k := 6) (n := n) (b := b) (l := [p, q]) hr hn (fun h => by omega) hp hs)
  have HPRT := hide (fun (i : Nat) hi h => makeR_part (k := 6) (n := n) (b := b) (l := [p, q]) (i := i) hi h)
  have HHL := hide (headR_len 6 n hn [q, p])
  have HTX := hide (txt_headR 6 n b [q, p] (by omega))
  rw [hso] at HYES HNO HPRT
  have HSZ := hide (show ∀ x ∈ [q, p], x.size ≤ maxLen from fun x hx => hsz x (by simp at hx ⊢; rcases hx with h | h <;> simp [h]))
  obtain ⟨A, cap, rfl, hc1, hc2⟩ := hv.form
  unfold maxLen at hc2
  obtain ⟨g0, o0, rfl, _, hcell00⟩ := rd_strs hv (by simp)
  have d0 : w.cell? ⟨g0, o0, none⟩ = some (.string p) := hcell00 0 (by simp)
  have d1 : w.cell? ⟨g0, o0 + 1, none⟩ = some (.string q) := hcell00 1 (by simp)
  rw [show (strs [p, q]).length = 2 from rfl] at hc1 ⊢
  have HV1 := hide (rd_new w 9 [] (strs [q, p]) (by simp) (by unfold maxLen; simp [strs]))
  have al := al_
  obtain ⟨PRE, hPRE⟩ : ∃ P, P = headR 6 n [q, p] := ⟨_, rfl⟩
  rw [← hPRE] at HHL HTX
  obtain ⟨S0, hS0⟩ : ∃ S, S = bytesOf [letU 6] := ⟨_, rfl⟩
  obtain ⟨S1, hS1⟩ : ∃ S, S = bytesOf [letU 6, 40] := ⟨_, rfl⟩
  have e1 : S0 ++ ⟨#[40]⟩ = S1 := by rw [hS0, hS1]; exact cat_bytes [letU 6] [40]
  have hov1 : ¬ 9223372036854775807 < S0.size + 1 := by rw [hS0, bytesOf_size]; simp
  have hs1 : S1.size = 2 := by rw [hS1, bytesOf_size]; rfl
  have HSP := hide (show S1 = bytesOf PRE by rw [hS1, hPRE]; unfold headR; rw [show numberedV 6 = false by decide, if_neg (by decide)])
  have HM := hide (show 2 = [q, p].length from rfl)
  have HML := hide (show 2 ≤ 1000 by omega)
  unfold gtB at hgt
  have hsl : ∀ W, (Instr.sliceAt 9 (.string ⟨#[48, 97, 110, 120, 112, 100, 104, 107, 109, 115, 108]⟩) (some (.int .i64 5)) (some (.int .i64 6)) none).run Tryz.prog W = .ok (.string S0) W := fun W => by rw [hS0]; kernel_rfl
  clear hv hn hsz hso hS1 hPRE hr hcell00 hS0
  go_enter Tryz.func101, Tryz.ntmps101
  go_wp2_with fail
  go_quiet (fail)
  go_wp2_with fail
  go_region
  go_wp2_with fail
  have HQ := hide (((Only.refl [] w).alloc (.cells #[.string q, .string p] 9)).drewN (nq + 1))
  have HV := hide (show Rd ((w.alloc (.cells #[.string q, .string p] 9)).drewN (nq + 1)) [] (.slice (some ⟨w.heap.size, 0, none⟩) 2 2) (strs [q, p]) from HV1.out.only ((Only.refl [] _).drewN (nq + 1)) (by simp))
  generalize (w.alloc (.cells #[.string q, .string p] 9)).drewN (nq + 1) = wq at *
  generalize hgG : w.heap.size = G at *
  clear d0 d1 al hgG HV1
  have HC := hide (Only.refl [] wq)
  go_loopw [10, 9] (fun i s wr => ∃ j : Nat, j ≤ 2 ∧ i = .int .i64 j ∧ s = .string (bytesOf (PRE ++ joinL ([q, p].take j))) ∧ Hid (∀ i, i < j → (parseV ([q, p].getD i ByteArray.empty)).isSome = true) ∧ Hid (Only [] wq wr)) (fun i _ _ => 2 - (intOf i).toNat)
  case atStart => exact ⟨0, Nat.zero_le _, rfl, (by rw [HSP.out]; simp [joinL]), hide (fun i h => absurd h (Nat.not_lt_zero i)), HC⟩
  case round =>
    clear HC
    obtain ⟨j, hj, rfl, rfl, HK, HC⟩ := hrel
    have HJB := hide (show (PRE ++ joinL ([q, p].take j)).length ≤ 70000000 by have h1 := joinL_bound [q, p] j HK.out (by rw [← HM.out]; exact hj); have h2 := HHL.out; have h3 := HML.out; rw [List.length_append]; have h4 : j * 65537 ≤ 1000 * 65537 := Nat.mul_le_mul_right _ (Nat.le_trans hj h3); omega)
    obtain ⟨S, hS⟩ : ∃ S, S = bytesOf (PRE ++ joinL ([q, p].take j)) := ⟨_, rfl⟩
    have hSs : S.size ≤ 70000000 := by rw [hS, bytesOf_size]; exact HJB.out
    rw [← hS]
    have HS := hide hS
    clear hS
    by_cases hlt : j < 2
    · have hltI : (j : Int) < 2 := by omega
      have hjl : j < [q, p].length := by rw [← HM.out]; exact hlt
      obtain ⟨g, o, hAA, _, hg, hcell0⟩ := HV.out.at_.2.2.2 j _ (get_txt hjl)
      (first | subst hAA | cases hAA); rw [Nat.zero_add] at hcell0
      have HCE := hide (fun W (h : Only [] wq W) => (cell_only h hg (by simp)).trans hcell0)
      have HIS := hide (fun W => isR_all W ([q, p].getD j ByteArray.empty) (HSZ.out _ (get_mem hjl)))
      unfold RetB at HIS
      rcases Bool.eq_false_or_eq_true (parseV ([q, p].getD j ByteArray.empty)).isSome with hq | hq
      · have HZ := hide (show ∀ i, i < j + 1 → (parseV ([q, p].getD i ByteArray.empty)).isSome = true from fun i hi => (Nat.lt_or_eq_of_le (Nat.le_of_lt_succ hi)).elim (HK.out i) (fun h => by rw [h]; exact hq))
        have hps := part_size hq
        have HJ := hide (joinL_take [q, p] j hjl)
        rw [hq] at HIS
        generalize [q, p].getD j ByteArray.empty = part at *
        have hcell := HCE.out _ HC.out
        clear hq hjl hcell0
        by_cases h0 : j = 0
        · have hzero : ¬ (0 : Int) < j := by omega
          have hzeroN : ¬ 0 < j := by omega
          obtain ⟨T, hT⟩ : ∃ T, S ++ part = T := ⟨_, rfl⟩
          have HTT := hide (show T = bytesOf (PRE ++ joinL ([q, p].take (j + 1))) by rw [← hT, HS.out, HJ.out, if_pos h0, List.nil_append, cat_part, List.append_assoc])
          have hov : ¬ 9223372036854775807 < S.size + part.size := by omega
          clear h0
          go_wp2_with (go_at_call 18; refine (HIS.out _).mono ?_; rintro e w2 ⟨rfl, ho⟩; have HC := hide (HC.out.trans ho); clear ho hcell; have hcell := HCE.out _ HC.out)
          go_roundw
          case rel => exact ⟨j + 1, by omega, by go_num, by rw [HTT.out], HZ, HC⟩
          case measure => simp [intOf]; omega
        · have hpos : (0 : Int) < j := by omega
          have hposN : 0 < j := by omega
          obtain ⟨U, hU⟩ : ∃ U, S ++ ⟨#[44]⟩ = U := ⟨_, rfl⟩
          obtain ⟨T, hT⟩ : ∃ T, U ++ part = T := ⟨_, rfl⟩
          have hUU : U = bytesOf (PRE ++ joinL ([q, p].take j) ++ [44]) := by rw [← hU, HS.out]; exact cat_bytes _ [44]
          have HTT := hide (show T = bytesOf (PRE ++ joinL ([q, p].take (j + 1))) by rw [← hT, hUU, HJ.out, if_neg h0, cat_part]; simp)
          have hUs : U.size ≤ 70000001 := by rw [hUU, bytesOf_size, List.length_append]; have := HJB.out; simp only [List.length_cons, List.length_nil]; omega
          have hov : ¬ 9223372036854775807 < S.size + 1 := by omega
          have hov2 : ¬ 9223372036854775807 < U.size + part.size := by omega
          clear h0 hUU
          go_wp2_with (go_at_call 18; refine (HIS.out _).mono ?_; rintro e w2 ⟨rfl, ho⟩; have HC := hide (HC.out.trans ho); clear ho hcell; have hcell := HCE.out _ HC.out)
          go_roundw
          case rel => exact ⟨j + 1, by omega, by go_num, by rw [HTT.out], HZ, HC⟩
          case measure => simp [intOf]; omega
      · have HMK := hide (HPRT.out j hjl hq)
        rw [hq] at HIS
        generalize [q, p].getD j ByteArray.empty = part at *
        have hcell := HCE.out _ HC.out
        clear hq hjl hcell0
        go_wp2_with (go_at_call 18; refine (HIS.out _).mono ?_; rintro e w2 ⟨rfl, ho⟩; have HC := hide (HC.out.trans ho); clear ho hcell; have hcell := HCE.out _ HC.out)
        go_ret
        exact makepost HMK.out (HQ.out.trans HC.out)
    · have hge : ¬ (j : Int) < 2 := by omega
      obtain ⟨T, hT⟩ : ∃ T, S ++ ⟨#[41]⟩ = T := ⟨_, rfl⟩
      have hTT : T = bytesOf (txtL 6 n b [q, p]) := by rw [← hT, HS.out, HTX.out, List.take_of_length_le (by have := HM.out; omega)]; exact cat_bytes _ [41]
      have hTs : T.size ≤ 70000001 := by rw [← hT, HS.out, show bytesOf (PRE ++ joinL ([q, p].take j)) ++ ⟨#[41]⟩ = bytesOf (PRE ++ joinL ([q, p].take j) ++ [41]) from cat_bytes _ [41], bytesOf_size, List.length_append]; have := HJB.out; simp only [List.length_cons, List.length_nil]; omega
      have HIS := hide (fun W => isR_all W T (by unfold maxLen; omega))
      unfold RetB at HIS
      have hov : ¬ 9223372036854775807 < S.size + 1 := by omega
      have hkk : ∀ i, i < [q, p].length → (parseV ([q, p].getD i ByteArray.empty)).isSome = true := fun i hi => HK.out i (by have := HM.out; omega)
      rcases Bool.eq_false_or_eq_true (parseV T).isSome with hq | hq
      · have HMK := hide (show makeV 6 n b [p, q] = T by rw [hTT]; rw [hTT] at hq; exact HYES.out hkk hq)
        rw [hq] at HIS
        clear hq hTT hkk
        go_wp2_with (go_at_call 18; refine (HIS.out _).mono ?_; rintro e w2 ⟨rfl, ho⟩; have HC := hide (HC.out.trans ho); clear ho)
        go_ret
        exact makepost HMK.out (HQ.out.trans HC.out)
      · have HMK := hide (show makeV 6 n b [p, q] = ByteArray.empty by rw [hTT] at hq; exact HNO.out hkk hq)
        rw [hq] at HIS
        clear hq hTT hkk
        go_wp2_with (go_at_call 18; refine (HIS.out _).mono ?_; rintro e w2 ⟨rfl, ho⟩; have HC := hide (HC.out.trans ho); clear ho)
        go_ret
        exact makepost HMK.out (HQ.out.trans HC.out)

theorem MakeR_any (k : Int) (n : Nat) (hn : n < 18446744073709551616) (bv lv : Value) (b : List UInt8) (hbl : b.length ≤ 100000) (l : List ByteArray) (hll : l.length ≤ 1000) (hsz : ∀ p ∈ l, p.size ≤ maxLen) (w : World)
    (hb : Rd w [] bv (ints .u8 (byts b))) (hv : Rd w [] lv (strs l)) :
    Calls Tryz.prog 101 #[.int .i64 k, .int .u64 n, bv, lv] w (MakePost (makeV k n b l) w) := by
  by_cases hr : 1 ≤ k ∧ k ≤ 11
  · by_cases h4 : k ≤ 4
    · exact makeR_short k hr.1 h4 n hn bv lv b hbl l w hb hv
    · by_cases h6 : k = 6
      · by_cases hw : wrong k l
        · subst h6
          obtain ⟨_, h2, h3⟩ := hw
          obtain ⟨p, q, rfl⟩ := two_list h2
          exact makeR_wrong n hn bv lv b p q hsz h3 w hv
        · exact makeR_six k h6 n hn bv lv b hbl l hll hw hsz w hv
      · by_cases h8 : k = 8 ∨ k = 10
        · exact makeR_num k h8 n hn bv lv b hbl l hll hsz w hv
        · exact makeR_bare k (by omega) n hn bv lv b hbl l hll hsz w hv
  · have HM := hide (make_kind (n := n) (b := b) (l := l) hr)
    have HC := hide (Only.refl [] w)
    clear hb hv hsz hll hbl
    by_cases h1 : k < 1
    · clear hr
      go_enter Tryz.func101, Tryz.ntmps101
      go_wp2_with fail
      go_ret
      exact makepost HM.out HC.out
    · have h11 : 11 < k := by omega
      clear hr
      go_enter Tryz.func101, Tryz.ntmps101
      go_wp2_with fail
      go_ret
      exact makepost HM.out HC.out
end
end Go.Proofs.YtfipdjlalfpbnaaGreatDoor

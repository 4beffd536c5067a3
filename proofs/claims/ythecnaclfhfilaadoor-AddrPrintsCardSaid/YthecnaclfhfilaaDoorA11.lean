/-
  Walks and plain words (texts Rfj). No condition beyond those that each theorem states.
-/
import Derived.Test.YthecnaclfhfilaaDoorA10
namespace Go.Proofs.YthecnaclfhfilaaDoor
section
open Go.RowKit Go.Deep

theorem sep_yes {c : UInt8} (h : c.toNat = 46 ∨ c.toNat = 58) : sepQ c = true := by
  unfold sepQ
  rcases h with h | h
  · rw [show c = 46 from UInt8.toNat_inj.1 h]; rfl
  · rw [show c = 58 from UInt8.toNat_inj.1 h]; rfl
theorem sep_no {c : UInt8} (h : ¬ c.toNat = 46) (k : ¬ c.toNat = 58) : sepQ c = false := by
  unfold sepQ
  rw [Bool.or_eq_false_iff]
  exact ⟨by rw [beq_eq_false_iff_ne]; rintro rfl; exact h rfl, by rw [beq_eq_false_iff_ne]; rintro rfl; exact k rfl⟩
theorem strq_eq (l : List UInt8) (s : ByteArray) : (l = s.data.toList → ((⟨l.toArray⟩ : ByteArray).toList == s.toList) = true) ∧ (¬ l = s.data.toList → ((⟨l.toArray⟩ : ByteArray).toList == s.toList) = false) := by
  rw [ByteArray.toList_eq, ByteArray.toList_eq]
  exact ⟨fun h => by rw [beq_iff_eq]; simpa using h, fun h => by rw [beq_eq_false_iff_ne]; simpa using h⟩
set_option maxRecDepth 100000 in
set_option maxHeartbeats 12800000 in
theorem refread_six (w : World) (s : ByteArray) (hs : s.size ≤ 1000000) (h39 : s.size = 39) : Calls Tryd.prog 7 #[.string s] w (RRPost (refR s) w) := by
  obtain ⟨i0, hi, hz0, hz1, hz2⟩ := info_parts info_u8a
  have HOW := hide (World.ownsRow_lit (base := w.heap.size) w #[] 0 (Nat.le_refl _) (by unfold maxLen; omega) (e := 5) (size := 1) (by simp))
  have HO := hide ((Only.refl [] w).alloc (.cells #[] 5))
  have hb39 : ((s.size : Int) == 39) = true := by rw [beq_iff_eq]; omega
  have HNONE := hide (show (¬ ∀ p ∈ splitQ s.data.toList, okQ true p) → refR s = none from fun h => by unfold refR; rw [decide_eq_true h39]; exact if_neg (fun h2 => h h2.1))
  have HEND := hide (show ∀ l : List UInt8, (∀ p ∈ splitQ s.data.toList, okQ true p) ∧ l = (splitQ s.data.toList).flatMap (valQ true) → refR s = if l.length = 16 ∧ printV l = s.data.toList then some l else none from fun l h => by
    unfold refR; rw [decide_eq_true h39, if_pos h39, ← h.2]
    by_cases h2 : l.length = 16 ∧ printV l = s.data.toList
    · rw [if_pos h2, if_pos ⟨h.1, h2⟩]
    · rw [if_neg h2, if_neg (fun h3 => h2 h3.2)])
  clear h39
  go_enter Tryd.func7, Tryd.ntmps7
  go_wp2_with fail
  obtain ⟨w0, hw0⟩ : ∃ w0, w0 = w.alloc (.cells #[] 5) := ⟨_, rfl⟩
  rw [← hw0] at HOW HO ⊢
  clear hw0
  go_loopw [4, 6, 7] (fun v fr i wr => ∃ (f k : Nat) (o : List UInt8), k ≤ s.size + 1 ∧ fr = .int .i64 f ∧ i = .int .i64 k ∧ Hid (QIs true s.data.toList f k o) ∧ Hid (wr.ownsRow w.heap.size 5 1 v o.length (ints .u8 (byts o))) ∧ Hid (Only [] w wr)) (fun _ _ i _ => s.size + 1 - (intOf i).toNat)
  case atStart => exact ⟨0, 0, [], Nat.zero_le _, rfl, rfl, hide (qis_start _ _), HOW, HO⟩
  case round =>
    obtain ⟨f, k, o, hk, rfl, rfl, hq, how, ho⟩ := hrel
    obtain ⟨Av, cv, rfl, _, _⟩ := own_form how.out
    by_cases hk2 : k ≤ s.size
    · have hkI2 : (k : Int) ≤ (s.size : Int) := by omega
      by_cases hlt : k < s.size
      · have hltI : (k : Int) < s.size := by omega
        by_cases h46 : s[k].toNat = 46
        · skip
          have hn1 : ((s[k].toNat : Int) != 46) = false := by rw [h46]; rfl
          have hn2 : (s[k].toNat != 46) = false := by rw [h46]; rfl
          have HSEP := hide (show ∀ h : k < s.data.toList.length, sepQ s.data.toList[k] = true from fun _ => sep_yes (.inl h46))
          have HKL := hide (show k ≤ s.data.toList.length from Nat.le_of_lt hlt)
          have hfk := (qis_len hq.out).2
          have hfkI : (f : Int) ≤ (k : Int) := by omega
          have hkI : (k : Int) ≤ (s.size : Int) := by omega
          have HXL := hide (ext_list s f k)
          obtain ⟨x, hX⟩ : ∃ x : ByteArray, x = s.extract f k := ⟨_, rfl⟩
          have hx : x.size ≤ 1000000 := by rw [hX, ByteArray.size_extract]; omega
          have HRH := hide (fun W => readhex_ref W x hx)
          rw [← hX] at HXL
          have HBL := hide (show (hexR x.data.toList).1.length + o.length ≤ 1000001 from by have h1 := hexR_len x.data.toList; have h2 : x.data.toList.length = x.size := rfl; rw [hX, ByteArray.size_extract] at h2; have h3 := (qis_len hq.out).1; rw [← hX] at h2; omega)
          have HP := hide (show (hexR x.data.toList).2 = 0 → QIs true s.data.toList (k + 1) (k + 1) (o ++ (hexR x.data.toList).1) from fun h => by
            have := qis_part hq.out HKL.out HSEP.out (by rw [← HXL.out]; exact h) (by rw [← HXL.out]; show (hexR x.data.toList).1.length ≤ _; have h1 := hexR_len x.data.toList; have h2 : x.data.toList.length = x.size := rfl; rw [hX, ByteArray.size_extract] at h2; rw [← hX] at h2; omega)
            rw [← HXL.out] at this
            exact this)
          have HBAD := hide (show ¬ (hexR x.data.toList).2 = 0 → refR s = none from fun h => HNONE.out (qis_bad hq.out HKL.out HSEP.out (by rw [← HXL.out]; exact h)))
          generalize hexR x.data.toList = rr at *
          rw [hX] at HRH
          clear hX HXL HSEP HKL
          obtain ⟨b, cd⟩ := rr
          unfold BytsPost at HRH
          simp only at HRH HP HBAD HBL
          by_cases hcd : cd = 0
          · subst hcd
            have HPZ := hide (HP.out rfl)
            simp only [show ((0 : Nat) : Int) = 0 from rfl] at HRH
            go_wp2_with (first
              | (go_at_call 23; with_reducible refine (HRH.out _).mono ?_; rintro e w3 ⟨v3, rfl, ho3, hrd⟩; have HV3 := hide (hrd [] (by simp)); obtain ⟨A3, c3, rfl, _, _⟩ := HV3.out.formb; have HRE := hide (Rd.reads HV3.out); have HO3 := hide (ho.out.trans ho3); have HW3 := hide (own_only how.out ho3 (by simp)); clear hrd ho3)
              | (at_builtin; refine wpList_append_any _ rfl (.tmp 49) (.tmp 50) 23 rfl w.heap.size 5 i0 (.int .u8 0) 1 1 Tryd.underlying23 hi hz0 hz1 hz2 rfl (by decide) _ o.length _ rfl HW3.out _ _ b.length c3 _ rfl HRE.out (by intro u hu; simp [ints] at hu; obtain ⟨z, _, rfl⟩ := hu; rfl) (by have := HBL.out; unfold maxLen; omega) (by have := HBL.out; omega) (by have := HO3.out.size; omega) ?_; intro v4 w4 hown4 hg4 _; rw [ints_byts_append, ← List.length_append] at hown4; have HO4 := hide hown4; have HG := hide (HO3.out.grown hg4 (fun z hz => .inr (own_block_ge HW3.out hz))); clear hown4 hg4))
            go_roundw
            case rel => exact ⟨k + 1, k + 1, o ++ b, by omega, by go_num, by go_num, HPZ, HO4, HG⟩
            case measure => simp [intOf] <;> omega
          · have hbb : ((cd : Int) != 0) = true := by rw [bne_iff_ne]; omega
            have HB := hide (HBAD.out hcd)
            clear hcd
            go_wp2_with (go_at_call 23; with_reducible refine (HRH.out _).mono ?_; rintro e w3 ⟨v3, rfl, ho3, hrd⟩; have HV3 := hide (hrd [] (by simp)); obtain ⟨A3, c3, rfl, _, _⟩ := HV3.out.formb; have HO3 := hide (ho.out.trans ho3); clear hrd ho3)
            go_ret2
            rw [HB.out]
            exact ⟨rfl, HO3.out⟩
        · by_cases h58 : s[k].toNat = 58
          · skip
            have hn1 : ((s[k].toNat : Int) != 46) = true := by rw [h58]; rfl
            have hn2 : (s[k].toNat != 46) = true := by rw [h58]; rfl
            have hn3 : ((s[k].toNat : Int) != 58) = false := by rw [h58]; rfl
            have hn4 : (s[k].toNat != 58) = false := by rw [h58]; rfl
            have HSEP := hide (show ∀ h : k < s.data.toList.length, sepQ s.data.toList[k] = true from fun _ => sep_yes (.inr h58))
            have HKL := hide (show k ≤ s.data.toList.length from Nat.le_of_lt hlt)
            have hfk := (qis_len hq.out).2
            have hfkI : (f : Int) ≤ (k : Int) := by omega
            have hkI : (k : Int) ≤ (s.size : Int) := by omega
            have HXL := hide (ext_list s f k)
            obtain ⟨x, hX⟩ : ∃ x : ByteArray, x = s.extract f k := ⟨_, rfl⟩
            have hx : x.size ≤ 1000000 := by rw [hX, ByteArray.size_extract]; omega
            have HRH := hide (fun W => readhex_ref W x hx)
            rw [← hX] at HXL
            have HBL := hide (show (hexR x.data.toList).1.length + o.length ≤ 1000001 from by have h1 := hexR_len x.data.toList; have h2 : x.data.toList.length = x.size := rfl; rw [hX, ByteArray.size_extract] at h2; have h3 := (qis_len hq.out).1; rw [← hX] at h2; omega)
            have HP := hide (show (hexR x.data.toList).2 = 0 → QIs true s.data.toList (k + 1) (k + 1) (o ++ (hexR x.data.toList).1) from fun h => by
              have := qis_part hq.out HKL.out HSEP.out (by rw [← HXL.out]; exact h) (by rw [← HXL.out]; show (hexR x.data.toList).1.length ≤ _; have h1 := hexR_len x.data.toList; have h2 : x.data.toList.length = x.size := rfl; rw [hX, ByteArray.size_extract] at h2; rw [← hX] at h2; omega)
              rw [← HXL.out] at this
              exact this)
            have HBAD := hide (show ¬ (hexR x.data.toList).2 = 0 → refR s = none from fun h => HNONE.out (qis_bad hq.out HKL.out HSEP.out (by rw [← HXL.out]; exact h)))
            generalize hexR x.data.toList = rr at *
            rw [hX] at HRH
            clear hX HXL HSEP HKL
            obtain ⟨b, cd⟩ := rr
            unfold BytsPost at HRH
            simp only at HRH HP HBAD HBL
            by_cases hcd : cd = 0
            · subst hcd
              have HPZ := hide (HP.out rfl)
              simp only [show ((0 : Nat) : Int) = 0 from rfl] at HRH
              go_wp2_with (first
                | (go_at_call 23; with_reducible refine (HRH.out _).mono ?_; rintro e w3 ⟨v3, rfl, ho3, hrd⟩; have HV3 := hide (hrd [] (by simp)); obtain ⟨A3, c3, rfl, _, _⟩ := HV3.out.formb; have HRE := hide (Rd.reads HV3.out); have HO3 := hide (ho.out.trans ho3); have HW3 := hide (own_only how.out ho3 (by simp)); clear hrd ho3)
                | (at_builtin; refine wpList_append_any _ rfl (.tmp 49) (.tmp 50) 23 rfl w.heap.size 5 i0 (.int .u8 0) 1 1 Tryd.underlying23 hi hz0 hz1 hz2 rfl (by decide) _ o.length _ rfl HW3.out _ _ b.length c3 _ rfl HRE.out (by intro u hu; simp [ints] at hu; obtain ⟨z, _, rfl⟩ := hu; rfl) (by have := HBL.out; unfold maxLen; omega) (by have := HBL.out; omega) (by have := HO3.out.size; omega) ?_; intro v4 w4 hown4 hg4 _; rw [ints_byts_append, ← List.length_append] at hown4; have HO4 := hide hown4; have HG := hide (HO3.out.grown hg4 (fun z hz => .inr (own_block_ge HW3.out hz))); clear hown4 hg4))
              go_roundw
              case rel => exact ⟨k + 1, k + 1, o ++ b, by omega, by go_num, by go_num, HPZ, HO4, HG⟩
              case measure => simp [intOf] <;> omega
            · have hbb : ((cd : Int) != 0) = true := by rw [bne_iff_ne]; omega
              have HB := hide (HBAD.out hcd)
              clear hcd
              go_wp2_with (go_at_call 23; with_reducible refine (HRH.out _).mono ?_; rintro e w3 ⟨v3, rfl, ho3, hrd⟩; have HV3 := hide (hrd [] (by simp)); obtain ⟨A3, c3, rfl, _, _⟩ := HV3.out.formb; have HO3 := hide (ho.out.trans ho3); clear hrd ho3)
              go_ret2
              rw [HB.out]
              exact ⟨rfl, HO3.out⟩
          · have hn1 : ((s[k].toNat : Int) != 46) = true := by rw [bne_iff_ne]; omega
            have hn2 : (s[k].toNat != 46) = true := by rw [bne_iff_ne]; omega
            have hn3 : ((s[k].toNat : Int) != 58) = true := by rw [bne_iff_ne]; omega
            have hn4 : (s[k].toNat != 58) = true := by rw [bne_iff_ne]; omega
            have HQ := hide (qis_skip hq.out hlt (sep_no h46 h58))
            clear h46 h58
            go_wp2_with fail
            go_roundw
            case rel => exact ⟨f, k + 1, o, by omega, rfl, by go_num, HQ, how, ho⟩
            case measure => simp [intOf] <;> omega
      · have hltI : ¬ (k : Int) < s.size := by omega
        have HSEP := hide (show ∀ h : k < s.data.toList.length, sepQ s.data.toList[k] = true from fun h => absurd h hlt)
        have HKL := hide (show k ≤ s.data.toList.length from hk2)
        have hfk := (qis_len hq.out).2
        have hfkI : (f : Int) ≤ (k : Int) := by omega
        have hkI : (k : Int) ≤ (s.size : Int) := by omega
        have HXL := hide (ext_list s f k)
        obtain ⟨x, hX⟩ : ∃ x : ByteArray, x = s.extract f k := ⟨_, rfl⟩
        have hx : x.size ≤ 1000000 := by rw [hX, ByteArray.size_extract]; omega
        have HRH := hide (fun W => readhex_ref W x hx)
        rw [← hX] at HXL
        have HBL := hide (show (hexR x.data.toList).1.length + o.length ≤ 1000001 from by have h1 := hexR_len x.data.toList; have h2 : x.data.toList.length = x.size := rfl; rw [hX, ByteArray.size_extract] at h2; have h3 := (qis_len hq.out).1; rw [← hX] at h2; omega)
        have HP := hide (show (hexR x.data.toList).2 = 0 → QIs true s.data.toList (k + 1) (k + 1) (o ++ (hexR x.data.toList).1) from fun h => by
          have := qis_part hq.out HKL.out HSEP.out (by rw [← HXL.out]; exact h) (by rw [← HXL.out]; show (hexR x.data.toList).1.length ≤ _; have h1 := hexR_len x.data.toList; have h2 : x.data.toList.length = x.size := rfl; rw [hX, ByteArray.size_extract] at h2; rw [← hX] at h2; omega)
          rw [← HXL.out] at this
          exact this)
        have HBAD := hide (show ¬ (hexR x.data.toList).2 = 0 → refR s = none from fun h => HNONE.out (qis_bad hq.out HKL.out HSEP.out (by rw [← HXL.out]; exact h)))
        generalize hexR x.data.toList = rr at *
        rw [hX] at HRH
        clear hX HXL HSEP HKL
        obtain ⟨b, cd⟩ := rr
        unfold BytsPost at HRH
        simp only at HRH HP HBAD HBL
        by_cases hcd : cd = 0
        · subst hcd
          have HPZ := hide (HP.out rfl)
          simp only [show ((0 : Nat) : Int) = 0 from rfl] at HRH
          go_wp2_with (first
            | (go_at_call 23; with_reducible refine (HRH.out _).mono ?_; rintro e w3 ⟨v3, rfl, ho3, hrd⟩; have HV3 := hide (hrd [] (by simp)); obtain ⟨A3, c3, rfl, _, _⟩ := HV3.out.formb; have HRE := hide (Rd.reads HV3.out); have HO3 := hide (ho.out.trans ho3); have HW3 := hide (own_only how.out ho3 (by simp)); clear hrd ho3)
            | (at_builtin; refine wpList_append_any _ rfl (.tmp 49) (.tmp 50) 23 rfl w.heap.size 5 i0 (.int .u8 0) 1 1 Tryd.underlying23 hi hz0 hz1 hz2 rfl (by decide) _ o.length _ rfl HW3.out _ _ b.length c3 _ rfl HRE.out (by intro u hu; simp [ints] at hu; obtain ⟨z, _, rfl⟩ := hu; rfl) (by have := HBL.out; unfold maxLen; omega) (by have := HBL.out; omega) (by have := HO3.out.size; omega) ?_; intro v4 w4 hown4 hg4 _; rw [ints_byts_append, ← List.length_append] at hown4; have HO4 := hide hown4; have HG := hide (HO3.out.grown hg4 (fun z hz => .inr (own_block_ge HW3.out hz))); clear hown4 hg4))
          go_roundw
          case rel => exact ⟨k + 1, k + 1, o ++ b, by omega, by go_num, by go_num, HPZ, HO4, HG⟩
          case measure => simp [intOf] <;> omega
        · have hbb : ((cd : Int) != 0) = true := by rw [bne_iff_ne]; omega
          have HB := hide (HBAD.out hcd)
          clear hcd
          go_wp2_with (go_at_call 23; with_reducible refine (HRH.out _).mono ?_; rintro e w3 ⟨v3, rfl, ho3, hrd⟩; have HV3 := hide (hrd [] (by simp)); obtain ⟨A3, c3, rfl, _, _⟩ := HV3.out.formb; have HO3 := hide (ho.out.trans ho3); clear hrd ho3)
          go_ret2
          rw [HB.out]
          exact ⟨rfl, HO3.out⟩
    · have hkI2 : ¬ (k : Int) ≤ (s.size : Int) := by omega
      obtain rfl : k = s.size + 1 := by omega
      have HE := hide (HEND.out o (qis_end hq.out))
      have HRD := hide (fun (N : List Nat) (hN : ∀ x ∈ N, x < w.heap.size) => (Rd.of_own (N := N) how.out hN).1)
      clear hq hk hk2
      by_cases hlen : o.length = 16
      · have HPR := hide (fun W (h : Rd W [] (.slice Av o.length cv) (ints .u8 (byts o))) => refPrint_addr _ o [] W h (by omega))
        have hlI : ((o.length : Int) != 16) = false := by rw [bne_eq_false_iff_eq]; omega
        have hlI2 : (o.length != 16) = false := by rw [bne_eq_false_iff_eq]; exact hlen
        have HSEQ := hide (strq_eq (printV o) s)
        by_cases hp : printV o = s.data.toList
        · have HV := hide (HE.out.trans (if_pos ⟨hlen, hp⟩))
          have HSEQ := hide (HSEQ.out.1 hp)
          clear hp
          obtain ⟨X, hX⟩ : ∃ X : ByteArray, X = ⟨(printV o).toArray⟩ := ⟨_, rfl⟩
          unfold StrPost at HPR
          rw [← hX] at HPR HSEQ
          clear hX
          have heq := HSEQ.out
          clear hlen
          go_wp2_with (go_at_call 14; refine (HPR.out _ (HRD.out [] (by simp))).mono ?_; rintro e w3 ⟨rfl, ho3⟩; have HO3 := hide (ho.out.trans ho3); have HRD := hide (fun (N : List Nat) (hN : ∀ x ∈ N, x < w.heap.size) => (HRD.out N hN).only ho3 (by simp)); clear ho3)
          go_ret2
          rw [HV.out]
          exact ⟨_, rfl, HO3.out, HRD.out⟩
        · have HV := hide (HE.out.trans (if_neg (fun h => hp h.2)))
          have HSEQ := hide (HSEQ.out.2 hp)
          clear hp
          obtain ⟨X, hX⟩ : ∃ X : ByteArray, X = ⟨(printV o).toArray⟩ := ⟨_, rfl⟩
          unfold StrPost at HPR
          rw [← hX] at HPR HSEQ
          clear hX
          have heq := HSEQ.out
          clear hlen
          go_wp2_with (go_at_call 14; refine (HPR.out _ (HRD.out [] (by simp))).mono ?_; rintro e w3 ⟨rfl, ho3⟩; have HO3 := hide (ho.out.trans ho3); clear ho3)
          go_ret2
          rw [HV.out]
          exact ⟨rfl, HO3.out⟩
      · have HV := hide (HE.out.trans (if_neg (fun h => hlen h.1)))
        have hlI : ((o.length : Int) != 16) = true := by rw [bne_iff_ne]; omega
        have hlI2 : (o.length != 16) = true := by rw [bne_iff_ne]; exact hlen
        clear hlen
        generalize o.length = n at *
        go_wp2_with fail
        go_ret2
        rw [HV.out]
        exact ⟨rfl, ho.out⟩
end
end Go.Proofs.YthecnaclfhfilaaDoor

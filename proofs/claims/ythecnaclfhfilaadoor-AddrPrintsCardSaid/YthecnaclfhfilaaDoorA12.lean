/-
  Walks and plain words (texts Rfk). No condition beyond those that each theorem states.
-/
import Derived.Test.YthecnaclfhfilaaDoorA11
namespace Go.Proofs.YthecnaclfhfilaaDoor
section
open Go.RowKit Go.Deep

set_option maxRecDepth 100000 in
set_option maxHeartbeats 12800000 in
theorem refread_dot (w : World) (s : ByteArray) (hs : s.size ≤ 1000000) (h39 : ¬ s.size = 39) : Calls Tryd.prog 7 #[.string s] w (RRPost (refR s) w) := by
  obtain ⟨i0, hi, hz0, hz1, hz2⟩ := info_parts info_u8a
  have HOW := hide (World.ownsRow_lit (base := w.heap.size) w #[] 0 (Nat.le_refl _) (by unfold maxLen; omega) (e := 5) (size := 1) (by simp))
  have HO := hide ((Only.refl [] w).alloc (.cells #[] 5))
  have hb39 : ((s.size : Int) == 39) = false := by rw [beq_eq_false_iff_ne]; omega
  have HNONE := hide (show (¬ ∀ p ∈ splitQ s.data.toList, okQ false p) → refR s = none from fun h => by unfold refR; rw [decide_eq_false h39]; exact if_neg (fun h2 => h h2.1))
  have HEND := hide (show ∀ l : List UInt8, (∀ p ∈ splitQ s.data.toList, okQ false p) ∧ l = (splitQ s.data.toList).flatMap (valQ false) → refR s = if l.length = 4 ∧ printV l = s.data.toList then some l else none from fun l h => by
    unfold refR; rw [decide_eq_false h39, if_neg h39, ← h.2]
    by_cases h2 : l.length = 4 ∧ printV l = s.data.toList
    · rw [if_pos h2, if_pos ⟨h.1, h2⟩]
    · rw [if_neg h2, if_neg (fun h3 => h2 h3.2)])
  clear h39
  go_enter Tryd.func7, Tryd.ntmps7
  go_wp2_with fail
  obtain ⟨w0, hw0⟩ : ∃ w0, w0 = w.alloc (.cells #[] 5) := ⟨_, rfl⟩
  rw [← hw0] at HOW HO ⊢
  clear hw0
  go_loopw [4, 6, 7] (fun v fr i wr => ∃ (f k : Nat) (o : List UInt8), k ≤ s.size + 1 ∧ fr = .int .i64 f ∧ i = .int .i64 k ∧ Hid (QIs false s.data.toList f k o) ∧ Hid (wr.ownsRow w.heap.size 5 1 v o.length (ints .u8 (byts o))) ∧ Hid (Only [] w wr)) (fun _ _ i _ => s.size + 1 - (intOf i).toNat)
  case atStart => exact ⟨0, 0, [], Nat.zero_le _, rfl, rfl, hide (qis_start _ _), HOW, HO⟩
  case round =>
    obtain ⟨f, k, o, hk, rfl, rfl, hq, how, ho⟩ := hrel
    obtain ⟨Av, cv, rfl, _, _⟩ := own_form how.out
    by_cases hk2 : k ≤ s.size
    · have hkI2 : (k : Int) ≤ (s.size : Int) := by omega
      by_cases hlt : k < s.size
      · have hltI : (k : Int) < s.size := by omega
        by_cases h46 : s[k].toNat = 46
        · skip
          have hn1 : ((s[k].toNat : Int) != 46) = false := by rw [h46]; rfl
          have hn2 : (s[k].toNat != 46) = false := by rw [h46]; rfl
          have HSEP := hide (show ∀ h : k < s.data.toList.length, sepQ s.data.toList[k] = true from fun _ => sep_yes (.inl h46))
          have HKL := hide (show k ≤ s.data.toList.length from Nat.le_of_lt hlt)
          have hfk := (qis_len hq.out).2
          have hfkI : (f : Int) ≤ (k : Int) := by omega
          have hkI : (k : Int) ≤ (s.size : Int) := by omega
          have HXL := hide (ext_list s f k)
          obtain ⟨x, hX⟩ : ∃ x : ByteArray, x = s.extract f k := ⟨_, rfl⟩
          have hx : x.size ≤ 1000000 := by rw [hX, ByteArray.size_extract]; omega
          have HRH := hide (fun W => read_ref W x hx)
          rw [← hX] at HXL
          have hu := numR_lt x.data.toList
          have HP := hide (show (numR x.data.toList).2 = 0 → QIs false s.data.toList (k + 1) (k + 1) (o ++ [UInt8.ofNat ((numR x.data.toList).1 % 256)]) from fun h => by
            have := qis_part hq.out HKL.out HSEP.out (by rw [← HXL.out]; exact h) (by show 1 ≤ _; omega)
            rw [← HXL.out] at this
            exact this)
          have HBAD := hide (show ¬ (numR x.data.toList).2 = 0 → refR s = none from fun h => HNONE.out (qis_bad hq.out HKL.out HSEP.out (by rw [← HXL.out]; exact h)))
          generalize numR x.data.toList = rr at *
          rw [hX] at HRH
          clear hX HXL HSEP HKL
          obtain ⟨u, cd⟩ := rr
          unfold NumRPost' at HRH
          simp only at HRH HP HBAD hu
          by_cases hcd : cd = 0
          · subst hcd
            have HPZ := hide (HP.out rfl)
            simp only [show ((0 : Nat) : Int) = 0 from rfl] at HRH
            have htm : (u : Int).tmod 256 = ((u % 256 : Nat) : Int) := by rw [Int.tmod_eq_emod_of_nonneg (by omega)]; omega
            have HBY := hide (show [Value.int .u8 ((u % 256 : Nat) : Int)] = ints .u8 (byts [UInt8.ofNat (u % 256)]) from by simp [ints, byts, UInt8.toNat_ofNat'])
            obtain ⟨z, hz⟩ : ∃ z, z = u % 256 := ⟨_, rfl⟩
            have hz3 : z < 256 := by omega
            rw [← hz] at htm HBY HPZ
            clear hz
            have hcv : IntKind.u8.wrap (z : Int) = (z : Int) := by rw [IntKind.wrap_u8]; omega
            have HRN := hide (fun W => reads_one W 5 (.int .u8 (z : Int)) (W.heap.size + 1) (Nat.lt_succ_self _))
            have HBL := hide (show o.length ≤ 1000001 from by have := qis_len hq.out; omega)
            go_wp2_with (first
              | (go_at_call 24; with_reducible refine (HRH.out _).mono ?_; rintro e w3 ⟨rfl, rfl⟩)
              | (at_builtin; refine wpList_append_any _ rfl (.tmp 62) (.tmp 66) 23 rfl w.heap.size 5 i0 (.int .u8 0) 1 1 Tryd.underlying23 hi hz0 hz1 hz2 rfl (by decide) _ o.length _ rfl (how.out.alloc _) _ _ 1 1 _ rfl (HRN.out _) (by simp [Value.oneCell']) (by have := HBL.out; unfold maxLen; omega) (by have := HBL.out; omega) (by have := ho.out.size; simp; omega) ?_; intro v4 w4 hown4 hg4 _; rw [HBY.out, ints_byts_append] at hown4; have HO4 := hide hown4; have HG := hide ((ho.out.alloc _).grown hg4 (fun z hz => .inr (own_block_ge how.out hz))); clear hown4 hg4))
            go_roundw
            case rel => exact ⟨k + 1, k + 1, o ++ [UInt8.ofNat z], by omega, by go_num, by go_num, HPZ, by rw [List.length_append]; exact HO4, HG⟩
            case measure => simp [intOf] <;> omega
          · have hbb : ((cd : Int) != 0) = true := by rw [bne_iff_ne]; omega
            have HB := hide (HBAD.out hcd)
            clear hcd
            go_wp2_with (go_at_call 24; with_reducible refine (HRH.out _).mono ?_; rintro e w3 ⟨rfl, rfl⟩)
            go_ret2
            rw [HB.out]
            exact ⟨rfl, ho.out⟩
        · by_cases h58 : s[k].toNat = 58
          · skip
            have hn1 : ((s[k].toNat : Int) != 46) = true := by rw [h58]; rfl
            have hn2 : (s[k].toNat != 46) = true := by rw [h58]; rfl
            have hn3 : ((s[k].toNat : Int) != 58) = false := by rw [h58]; rfl
            have hn4 : (s[k].toNat != 58) = false := by rw [h58]; rfl
            have HSEP := hide (show ∀ h : k < s.data.toList.length, sepQ s.data.toList[k] = true from fun _ => sep_yes (.inr h58))
            have HKL := hide (show k ≤ s.data.toList.length from Nat.le_of_lt hlt)
            have hfk := (qis_len hq.out).2
            have hfkI : (f : Int) ≤ (k : Int) := by omega
            have hkI : (k : Int) ≤ (s.size : Int) := by omega
            have HXL := hide (ext_list s f k)
            obtain ⟨x, hX⟩ : ∃ x : ByteArray, x = s.extract f k := ⟨_, rfl⟩
            have hx : x.size ≤ 1000000 := by rw [hX, ByteArray.size_extract]; omega
            have HRH := hide (fun W => read_ref W x hx)
            rw [← hX] at HXL
            have hu := numR_lt x.data.toList
            have HP := hide (show (numR x.data.toList).2 = 0 → QIs false s.data.toList (k + 1) (k + 1) (o ++ [UInt8.ofNat ((numR x.data.toList).1 % 256)]) from fun h => by
              have := qis_part hq.out HKL.out HSEP.out (by rw [← HXL.out]; exact h) (by show 1 ≤ _; omega)
              rw [← HXL.out] at this
              exact this)
            have HBAD := hide (show ¬ (numR x.data.toList).2 = 0 → refR s = none from fun h => HNONE.out (qis_bad hq.out HKL.out HSEP.out (by rw [← HXL.out]; exact h)))
            generalize numR x.data.toList = rr at *
            rw [hX] at HRH
            clear hX HXL HSEP HKL
            obtain ⟨u, cd⟩ := rr
            unfold NumRPost' at HRH
            simp only at HRH HP HBAD hu
            by_cases hcd : cd = 0
            · subst hcd
              have HPZ := hide (HP.out rfl)
              simp only [show ((0 : Nat) : Int) = 0 from rfl] at HRH
              have htm : (u : Int).tmod 256 = ((u % 256 : Nat) : Int) := by rw [Int.tmod_eq_emod_of_nonneg (by omega)]; omega
              have HBY := hide (show [Value.int .u8 ((u % 256 : Nat) : Int)] = ints .u8 (byts [UInt8.ofNat (u % 256)]) from by simp [ints, byts, UInt8.toNat_ofNat'])
              obtain ⟨z, hz⟩ : ∃ z, z = u % 256 := ⟨_, rfl⟩
              have hz3 : z < 256 := by omega
              rw [← hz] at htm HBY HPZ
              clear hz
              have hcv : IntKind.u8.wrap (z : Int) = (z : Int) := by rw [IntKind.wrap_u8]; omega
              have HRN := hide (fun W => reads_one W 5 (.int .u8 (z : Int)) (W.heap.size + 1) (Nat.lt_succ_self _))
              have HBL := hide (show o.length ≤ 1000001 from by have := qis_len hq.out; omega)
              go_wp2_with (first
                | (go_at_call 24; with_reducible refine (HRH.out _).mono ?_; rintro e w3 ⟨rfl, rfl⟩)
                | (at_builtin; refine wpList_append_any _ rfl (.tmp 62) (.tmp 66) 23 rfl w.heap.size 5 i0 (.int .u8 0) 1 1 Tryd.underlying23 hi hz0 hz1 hz2 rfl (by decide) _ o.length _ rfl (how.out.alloc _) _ _ 1 1 _ rfl (HRN.out _) (by simp [Value.oneCell']) (by have := HBL.out; unfold maxLen; omega) (by have := HBL.out; omega) (by have := ho.out.size; simp; omega) ?_; intro v4 w4 hown4 hg4 _; rw [HBY.out, ints_byts_append] at hown4; have HO4 := hide hown4; have HG := hide ((ho.out.alloc _).grown hg4 (fun z hz => .inr (own_block_ge how.out hz))); clear hown4 hg4))
              go_roundw
              case rel => exact ⟨k + 1, k + 1, o ++ [UInt8.ofNat z], by omega, by go_num, by go_num, HPZ, by rw [List.length_append]; exact HO4, HG⟩
              case measure => simp [intOf] <;> omega
            · have hbb : ((cd : Int) != 0) = true := by rw [bne_iff_ne]; omega
              have HB := hide (HBAD.out hcd)
              clear hcd
              go_wp2_with (go_at_call 24; with_reducible refine (HRH.out _).mono ?_; rintro e w3 ⟨rfl, rfl⟩)
              go_ret2
              rw [HB.out]
              exact ⟨rfl, ho.out⟩
          · have hn1 : ((s[k].toNat : Int) != 46) = true := by rw [bne_iff_ne]; omega
            have hn2 : (s[k].toNat != 46) = true := by rw [bne_iff_ne]; omega
            have hn3 : ((s[k].toNat : Int) != 58) = true := by rw [bne_iff_ne]; omega
            have hn4 : (s[k].toNat != 58) = true := by rw [bne_iff_ne]; omega
            have HQ := hide (qis_skip hq.out hlt (sep_no h46 h58))
            clear h46 h58
            go_wp2_with fail
            go_roundw
            case rel => exact ⟨f, k + 1, o, by omega, rfl, by go_num, HQ, how, ho⟩
            case measure => simp [intOf] <;> omega
      · have hltI : ¬ (k : Int) < s.size := by omega
        have HSEP := hide (show ∀ h : k < s.data.toList.length, sepQ s.data.toList[k] = true from fun h => absurd h hlt)
        have HKL := hide (show k ≤ s.data.toList.length from hk2)
        have hfk := (qis_len hq.out).2
        have hfkI : (f : Int) ≤ (k : Int) := by omega
        have hkI : (k : Int) ≤ (s.size : Int) := by omega
        have HXL := hide (ext_list s f k)
        obtain ⟨x, hX⟩ : ∃ x : ByteArray, x = s.extract f k := ⟨_, rfl⟩
        have hx : x.size ≤ 1000000 := by rw [hX, ByteArray.size_extract]; omega
        have HRH := hide (fun W => read_ref W x hx)
        rw [← hX] at HXL
        have hu := numR_lt x.data.toList
        have HP := hide (show (numR x.data.toList).2 = 0 → QIs false s.data.toList (k + 1) (k + 1) (o ++ [UInt8.ofNat ((numR x.data.toList).1 % 256)]) from fun h => by
          have := qis_part hq.out HKL.out HSEP.out (by rw [← HXL.out]; exact h) (by show 1 ≤ _; omega)
          rw [← HXL.out] at this
          exact this)
        have HBAD := hide (show ¬ (numR x.data.toList).2 = 0 → refR s = none from fun h => HNONE.out (qis_bad hq.out HKL.out HSEP.out (by rw [← HXL.out]; exact h)))
        generalize numR x.data.toList = rr at *
        rw [hX] at HRH
        clear hX HXL HSEP HKL
        obtain ⟨u, cd⟩ := rr
        unfold NumRPost' at HRH
        simp only at HRH HP HBAD hu
        by_cases hcd : cd = 0
        · subst hcd
          have HPZ := hide (HP.out rfl)
          simp only [show ((0 : Nat) : Int) = 0 from rfl] at HRH
          have htm : (u : Int).tmod 256 = ((u % 256 : Nat) : Int) := by rw [Int.tmod_eq_emod_of_nonneg (by omega)]; omega
          have HBY := hide (show [Value.int .u8 ((u % 256 : Nat) : Int)] = ints .u8 (byts [UInt8.ofNat (u % 256)]) from by simp [ints, byts, UInt8.toNat_ofNat'])
          obtain ⟨z, hz⟩ : ∃ z, z = u % 256 := ⟨_, rfl⟩
          have hz3 : z < 256 := by omega
          rw [← hz] at htm HBY HPZ
          clear hz
          have hcv : IntKind.u8.wrap (z : Int) = (z : Int) := by rw [IntKind.wrap_u8]; omega
          have HRN := hide (fun W => reads_one W 5 (.int .u8 (z : Int)) (W.heap.size + 1) (Nat.lt_succ_self _))
          have HBL := hide (show o.length ≤ 1000001 from by have := qis_len hq.out; omega)
          go_wp2_with (first
            | (go_at_call 24; with_reducible refine (HRH.out _).mono ?_; rintro e w3 ⟨rfl, rfl⟩)
            | (at_builtin; refine wpList_append_any _ rfl (.tmp 62) (.tmp 66) 23 rfl w.heap.size 5 i0 (.int .u8 0) 1 1 Tryd.underlying23 hi hz0 hz1 hz2 rfl (by decide) _ o.length _ rfl (how.out.alloc _) _ _ 1 1 _ rfl (HRN.out _) (by simp [Value.oneCell']) (by have := HBL.out; unfold maxLen; omega) (by have := HBL.out; omega) (by have := ho.out.size; simp; omega) ?_; intro v4 w4 hown4 hg4 _; rw [HBY.out, ints_byts_append] at hown4; have HO4 := hide hown4; have HG := hide ((ho.out.alloc _).grown hg4 (fun z hz => .inr (own_block_ge how.out hz))); clear hown4 hg4))
          go_roundw
          case rel => exact ⟨k + 1, k + 1, o ++ [UInt8.ofNat z], by omega, by go_num, by go_num, HPZ, by rw [List.length_append]; exact HO4, HG⟩
          case measure => simp [intOf] <;> omega
        · have hbb : ((cd : Int) != 0) = true := by rw [bne_iff_ne]; omega
          have HB := hide (HBAD.out hcd)
          clear hcd
          go_wp2_with (go_at_call 24; with_reducible refine (HRH.out _).mono ?_; rintro e w3 ⟨rfl, rfl⟩)
          go_ret2
          rw [HB.out]
          exact ⟨rfl, ho.out⟩
    · have hkI2 : ¬ (k : Int) ≤ (s.size : Int) := by omega
      obtain rfl : k = s.size + 1 := by omega
      have HE := hide (HEND.out o (qis_end hq.out))
      have HRD := hide (fun (N : List Nat) (hN : ∀ x ∈ N, x < w.heap.size) => (Rd.of_own (N := N) how.out hN).1)
      clear hq hk hk2
      by_cases hlen : o.length = 4
      · have HPR := hide (fun W (h : Rd W [] (.slice Av o.length cv) (ints .u8 (byts o))) => refPrint_addr _ o [] W h (by omega))
        have hlI : ((o.length : Int) != 4) = false := by rw [bne_eq_false_iff_eq]; omega
        have hlI2 : (o.length != 4) = false := by rw [bne_eq_false_iff_eq]; exact hlen
        have HSEQ := hide (strq_eq (printV o) s)
        by_cases hp : printV o = s.data.toList
        · have HV := hide (HE.out.trans (if_pos ⟨hlen, hp⟩))
          have HSEQ := hide (HSEQ.out.1 hp)
          clear hp
          obtain ⟨X, hX⟩ : ∃ X : ByteArray, X = ⟨(printV o).toArray⟩ := ⟨_, rfl⟩
          unfold StrPost at HPR
          rw [← hX] at HPR HSEQ
          clear hX
          have heq := HSEQ.out
          clear hlen
          go_wp2_with (go_at_call 14; refine (HPR.out _ (HRD.out [] (by simp))).mono ?_; rintro e w3 ⟨rfl, ho3⟩; have HO3 := hide (ho.out.trans ho3); have HRD := hide (fun (N : List Nat) (hN : ∀ x ∈ N, x < w.heap.size) => (HRD.out N hN).only ho3 (by simp)); clear ho3)
          go_ret2
          rw [HV.out]
          exact ⟨_, rfl, HO3.out, HRD.out⟩
        · have HV := hide (HE.out.trans (if_neg (fun h => hp h.2)))
          have HSEQ := hide (HSEQ.out.2 hp)
          clear hp
          obtain ⟨X, hX⟩ : ∃ X : ByteArray, X = ⟨(printV o).toArray⟩ := ⟨_, rfl⟩
          unfold StrPost at HPR
          rw [← hX] at HPR HSEQ
          clear hX
          have heq := HSEQ.out
          clear hlen
          go_wp2_with (go_at_call 14; refine (HPR.out _ (HRD.out [] (by simp))).mono ?_; rintro e w3 ⟨rfl, ho3⟩; have HO3 := hide (ho.out.trans ho3); clear ho3)
          go_ret2
          rw [HV.out]
          exact ⟨rfl, HO3.out⟩
      · have HV := hide (HE.out.trans (if_neg (fun h => hlen h.1)))
        have hlI : ((o.length : Int) != 4) = true := by rw [bne_iff_ne]; omega
        have hlI2 : (o.length != 4) = true := by rw [bne_iff_ne]; exact hlen
        clear hlen
        generalize o.length = n at *
        go_wp2_with fail
        go_ret2
        rw [HV.out]
        exact ⟨rfl, ho.out⟩
theorem refRead_any (w : World) (s : ByteArray) (hs : s.size ≤ 1000000) : Calls Tryd.prog 7 #[.string s] w (RRPost (refR s) w) := by
  by_cases h : s.size = 39
  · exact refread_six w s hs h
  · exact refread_dot w s hs h
end
end Go.Proofs.YthecnaclfhfilaaDoor

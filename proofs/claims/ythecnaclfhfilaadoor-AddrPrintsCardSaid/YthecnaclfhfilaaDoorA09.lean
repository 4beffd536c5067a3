/-
  Walks and plain words (texts Rfg). No condition beyond those that each theorem states.
-/
import Derived.Test.YthecnaclfhfilaaDoorA08
namespace Go.Proofs.YthecnaclfhfilaaDoor
section
open Go.RowKit Go.Deep

/-- An address's text. -/
def printV (l : List UInt8) : List UInt8 := if l.length = 4 then dotV l 4 else colV l 8
def TwoS (t : ByteArray) (c : Int) (w : World) (e : Ending) (w' : World) : Prop := e = .returned (.tuple #[.string t, .int .i64 c]) ∧ Only [] w w'
set_option maxRecDepth 100000 in
set_option maxHeartbeats 3200000 in
theorem print_bad (v : Value) (l : List UInt8) (N : List Nat) (w : World) (hv : Rd w N v (ints .u8 (byts l))) (h4 : ¬ l.length = 4) (h16 : ¬ l.length = 16) : Calls Tryd.prog 12 #[v] w (TwoS ⟨#[]⟩ 3 w) := by
  obtain ⟨A, cap, rfl, hcp, hcm⟩ := hv.formb
  have hb4 : ((l.length : Int) == 4) = false := by rw [beq_eq_false_iff_ne]; omega
  have hb16 : ((l.length : Int) == 16) = false := by rw [beq_eq_false_iff_ne]; omega
  have HO := hide ((Only.refl [] w).alloc (.cells #[.pointer none, .slice none 0 0] 57))
  clear hv h4 h16
  generalize l.length = n at *
  go_enter Tryd.func12, Tryd.ntmps12
  go_wp2_with fail
  go_ret2
  exact ⟨rfl, HO.out⟩
theorem Print_addr (v : Value) (l : List UInt8) (N : List Nat) (w : World) (hv : Rd w N v (ints .u8 (byts l))) (h : l.length = 4 ∨ l.length = 16) (htab : Tab w) : Calls Tryd.prog 12 #[v] w (TxtPost (printV l) w) := by
  unfold printV
  rcases h with h | h
  · rw [if_pos h]; exact print_four v l N w hv h htab
  · rw [if_neg (by omega)]; exact print_sixteen v l N w hv h
theorem printV_len {l : List UInt8} : (printV l).length ≤ 84 := by
  unfold printV
  split
  · exact dot_len l 4
  · have := col_len l 8; omega
set_option maxRecDepth 100000 in
set_option maxHeartbeats 3200000 in
theorem pp_yes (v : Value) (l : List UInt8) (b : Nat) (N : List Nat) (w : World) (hv : Rd w N v (ints .u8 (byts l))) (hp : isPlain l b = true) (htab : Tab w) :
    Calls Tryd.prog 13 #[.agg #[v, .int .i64 b]] w (TxtPost (printV l ++ ([47] ++ Lib.decDigits b)) w) := by
  have hr : rightV l b = true := by unfold isPlain at hp; simp only [Bool.and_eq_true] at hp; exact hp.1
  obtain ⟨_, hb1, hb2, h416⟩ := right_nat2 hr
  have hb : b ≤ 128 := by omega
  have HO := hide ((Only.refl [] w).alloc (.cells #[v, .int .i64 b] 30))
  have HV := hide ((hv.less (N' := []) (fun x hx => by cases hx)).only HO.out (by simp))
  have HBX := hide (Blk.new w 30 #[v, .int .i64 b])
  have HT := hide htab
  have HP := hide hp
  have H4 := hide h416
  have hd1 := printV_len (l := l)
  have hd2 := dec_len b (by omega)
  have HB64 := hide (show b < 18446744073709551616 by omega)
  obtain ⟨A, cap, rfl, hcp, hcm⟩ := hv.formb
  have HN := hide (show l.length ≤ 16 by omega)
  clear hv hp h416 htab hr hb1 hb2
  obtain ⟨X, hX⟩ : ∃ X : ByteArray, X = ⟨(printV l).toArray⟩ := ⟨_, rfl⟩
  obtain ⟨Y, hY⟩ : ∃ Y : ByteArray, Y = ⟨(Lib.decDigits b).toArray⟩ := ⟨_, rfl⟩
  have hxs : X.size ≤ 84 := by rw [hX]; simpa [ByteArray.size] using hd1
  have hys : Y.size ≤ 20 := by rw [hY]; simpa [ByteArray.size] using hd2
  have HX := hide hX
  have HY := hide hY
  clear hX hY hd1 hd2
  go_enter Tryd.func13, Tryd.ntmps13
  go_wp2_with (first
    | (go_at_call 26; refine (plain_any _ l b _ _ HV.out).mono ?_; rw [HP.out]; rintro e w1 ⟨rfl, ho⟩; have HC := hide (HO.out.trans ho); have HV := hide (HV.out.only ho (by simp)); have HBX := hide (HBX.out.only ho (by simp)); have c0 := HBX.out.cell 0; have c1 := HBX.out.cell 1; simp at c0 c1; clear ho)
    | (go_at_call 12; refine (Print_addr _ l _ _ HV.out H4.out (HT.out.only HC.out (by simp))).mono ?_; unfold TxtPost; rw [← HX.out]; rintro e w2 ⟨rfl, ho⟩; have HC := hide (HC.out.trans ho); have HBX := hide (HBX.out.only ho (by simp)); have c0 := HBX.out.cell 0; have c1 := HBX.out.cell 1; simp at c0 c1; clear ho)
    | (go_at_call 29; refine (print_any b HB64.out _ (HT.out.only HC.out (by simp))).mono ?_; unfold StrPost; rw [← HY.out]; rintro e w3 ⟨rfl, ho⟩; have HC := hide (HC.out.trans ho); clear ho))
  go_ret2
  refine ⟨congrArg (fun s => Ending.returned (.tuple #[.string s, .int .i64 0])) ?_, HC.out⟩
  rw [HX.out, HY.out]
  exact cat_three _ _
/-- The reference's text with colons, byte by byte. -/
def rcV (l : List UInt8) : Nat → List UInt8
  | 0 => []
  | k + 1 => rcV l k ++ ((if 0 < k ∧ k % 2 = 0 then [58] else []) ++ hexS [l.getD k 0])
theorem hexS_one (a : UInt8) : (hexS [a]).length = 2 := by simp [hexS]
theorem rc_len (l : List UInt8) : ∀ k, (rcV l k).length ≤ 3 * k
  | 0 => by simp [rcV]
  | k + 1 => by
    have h1 := rc_len l k
    simp only [rcV, List.length_append, hexS_one]
    split <;> simp only [List.length_nil, List.length_singleton] <;> omega
theorem rc_col (l : List UInt8) : ∀ k, rcV l (2 * k) = colV l k
  | 0 => rfl
  | k + 1 => by
    rw [show 2 * (k + 1) = 2 * k + 1 + 1 by omega, rcV, rcV, rc_col l k, colV]
    rw [if_neg (show ¬ (0 < 2 * k + 1 ∧ (2 * k + 1) % 2 = 0) by omega)]
    by_cases h0 : k = 0
    · subst h0
      simp [hexS]
    · rw [if_pos (show 0 < 2 * k ∧ 2 * k % 2 = 0 by omega), if_neg h0]
      simp [hexS]
theorem rd_one {w : World} {N : List Nat} {g o n cap : Nat} {l : List UInt8} (h : Rd w N (.slice (some ⟨g, o, none⟩) n cap) (ints .u8 (byts l))) {k : Nat} (hk : k < l.length) :
    Rd w N (.slice (some ⟨g, o + k, none⟩) 1 (cap - k)) (ints .u8 (byts [l.getD k 0])) := by
  obtain ⟨h1, h2, h3, h4⟩ := h.at_
  rw [ints_length, byts_length] at h1
  obtain ⟨g', o', hA, hg, hl, hc⟩ := h4 k _ (ints_get (byts_get (getD_some hk)))
  injection hA with hA
  injection hA with e1 e2
  subst e1 e2
  refine ⟨_, _, rfl, by rw [ints_length, byts_length]; show 1 ≤ _; omega, by omega, .inr ⟨g, o + k, rfl, hg, hl, fun i x hx => ?_⟩⟩
  match i, hx with
  | 0, hx =>
    simp [ints, byts] at hx
    rw [← hx, Nat.add_zero, hc]
    simp
  | i + 1, hx => simp [ints, byts] at hx
set_option maxRecDepth 100000 in
set_option maxHeartbeats 6400000 in
theorem refprint_four (v : Value) (l : List UInt8) (N : List Nat) (w : World) (hv : Rd w N v (ints .u8 (byts l))) (h4 : l.length = 4) : Calls Tryd.prog 14 #[v] w (StrPost (dotV l 4) w) := by
  have HV := hide (hv.less (N' := []) (fun x hx => by cases hx))
  obtain ⟨A, cap, rfl, hcp, hcm⟩ := hv.formb
  have HN := hide h4
  rw [h4] at HV hcp ⊢
  clear hv h4
  go_enter Tryd.func14, Tryd.ntmps14
  go_wp2_with fail
  go_loopw [4, 3] (fun i s wr => ∃ k : Nat, k ≤ 4 ∧ i = .int .i64 k ∧ s = .string ⟨(dotV l k).toArray⟩ ∧ Hid (Only [] w wr)) (fun i _ _ => 4 - (intOf i).toNat)
  case atStart => exact ⟨0, Nat.zero_le _, rfl, rfl, hide (Only.refl _ _)⟩
  case round =>
    obtain ⟨k, hk, rfl, rfl, ho⟩ := hrel
    by_cases hlt : k < 4
    · have hltI : (k : Int) < 4 := by omega
      have hg1 := getD_some (l := l) (k := k) (by rw [HN.out]; exact hlt)
      obtain ⟨g, o, rfl, _, hg, hcell⟩ := (HV.out.only ho.out (by simp)).at_.2.2.2 k _ (ints_get (byts_get hg1))
      have hds : dotV l (k + 1) = dotV l k ++ ((if k = 0 then [] else [46]) ++ Lib.decDigits (l.getD k 0).toNat) := rfl
      have hdl := dot_len l k
      have hdl2 := dec_len (l.getD k 0).toNat (Nat.lt_of_lt_of_le (UInt8.toNat_lt _) (by decide))
      have hc1 := UInt8.toNat_lt (l.getD k 0)
      obtain ⟨c, hcc⟩ : ∃ c, c = (l.getD k 0).toNat := ⟨_, rfl⟩
      rw [← hcc] at hcell hds hdl2 hc1
      have HP := hide (print_ref c (by omega))
      unfold StrPost at HP
      obtain ⟨X, hX⟩ : ∃ X : ByteArray, X = ⟨(dotV l k).toArray⟩ := ⟨_, rfl⟩
      obtain ⟨Y, hY⟩ : ∃ Y : ByteArray, Y = ⟨(Lib.decDigits c).toArray⟩ := ⟨_, rfl⟩
      have hxs : X.size ≤ 84 := by rw [hX]; have : (⟨(dotV l k).toArray⟩ : ByteArray).size = (dotV l k).length := by simp [ByteArray.size]
                                   omega
      have hys : Y.size ≤ 20 := by rw [hY]; simpa [ByteArray.size] using hdl2
      rw [← hY] at HP
      rw [← hX]
      have HX := hide hX
      have HY := hide hY
      have HD := hide hds
      clear hX hY hdl hdl2 hds hg1 hcc
      have hov1 : ¬ 9223372036854775807 < X.size + 1 := by omega
      have hov2 : ¬ 9223372036854775807 < X.size + 1 + Y.size := by omega
      have hov3 : ¬ 9223372036854775807 < X.size + Y.size := by omega
      by_cases h0 : k = 0
      · have hzero : ¬ (0 : Int) < k := by omega
        have H0 := hide h0
        clear h0
        go_wp2_with (go_at_call 33; refine (HP.out _).mono ?_; rintro e w2 ⟨rfl, ho2⟩; have HO2 := hide (ho.out.trans ho2); clear ho2)
        go_roundw
        case rel => exact ⟨k + 1, by omega, by go_num, congrArg Value.string (by rw [HX.out, HY.out, HD.out, if_pos H0.out, ba_append]; rfl), HO2⟩
        case measure => simp [intOf] <;> omega
      · have hpos : (0 : Int) < k := by omega
        have H0 := hide h0
        clear h0
        go_wp2_with (go_at_call 33; refine (HP.out _).mono ?_; rintro e w2 ⟨rfl, ho2⟩; have HO2 := hide (ho.out.trans ho2); clear ho2)
        go_roundw
        case rel => exact ⟨k + 1, by omega, by go_num, congrArg Value.string (by rw [HX.out, HY.out, HD.out, if_neg H0.out, show (⟨#[46]⟩ : ByteArray) = ⟨[46].toArray⟩ from rfl, ba_append, ba_append]; simp), HO2⟩
        case measure => simp [intOf] <;> omega
    · have hltI : ¬ (k : Int) < 4 := by omega
      obtain rfl : k = 4 := by omega
      go_wp2_with fail
      go_ret
      exact strpost rfl ho.out
set_option maxRecDepth 100000 in
set_option maxHeartbeats 6400000 in
theorem refprint_sixteen (v : Value) (l : List UInt8) (N : List Nat) (w : World) (hv : Rd w N v (ints .u8 (byts l))) (h16 : l.length = 16) : Calls Tryd.prog 14 #[v] w (StrPost (colV l 8) w) := by
  obtain ⟨i0, hi, hz0, hz1, hz2⟩ := info_parts info_u8a
  have HV := hide (hv.less (N' := []) (fun x hx => by cases hx))
  obtain ⟨A, cap, rfl, hcp, hcm⟩ := hv.formb
  have HN := hide h16
  rw [h16] at HV hcp ⊢
  unfold maxLen at hcm
  clear hv h16
  go_enter Tryd.func14, Tryd.ntmps14
  go_wp2_with fail
  go_loopw [4, 3] (fun i s wr => ∃ k : Nat, k ≤ 16 ∧ i = .int .i64 k ∧ s = .string ⟨(rcV l k).toArray⟩ ∧ Hid (Only [] w wr)) (fun i _ _ => 16 - (intOf i).toNat)
  case atStart => exact ⟨0, Nat.zero_le _, rfl, rfl, hide (Only.refl _ _)⟩
  case round =>
    obtain ⟨k, hk, rfl, rfl, ho⟩ := hrel
    by_cases hlt : k < 16
    · have hltI : (k : Int) < 16 := by omega
      have hg1 := getD_some (l := l) (k := k) (by rw [HN.out]; exact hlt)
      obtain ⟨g, o, rfl, _, hg, hcell⟩ := (HV.out.only ho.out (by simp)).at_.2.2.2 k _ (ints_get (byts_get hg1))
      have HT := hide (rd_one HV.out (k := k) (by rw [HN.out]; exact hlt))
      have hds : rcV l (k + 1) = rcV l k ++ ((if 0 < k ∧ k % 2 = 0 then [58] else []) ++ hexS [l.getD k 0]) := rfl
      have hdl := rc_len l k
      have hdl2 := hexS_one (l.getD k 0)
      have hsl := fun W => slice_two Tryd.prog 23 5 ⟨g, o, none⟩ 16 cap k (k + 1) (k : Int) ((k : Int) + 1) rfl (by omega) Tryd.underlying23 hi hz1 (by omega) (by omega) (by omega) W
      rw [add_mk, show k + 1 - k = 1 by omega] at hsl
      have HH := hide (fun W (h : Rd W [] (.slice (some ⟨g, o + k, none⟩) 1 (cap - k)) (ints .u8 (byts [l.getD k 0]))) => hex_ref W [] _ _ h (by simp))
      unfold StrPost at HH
      obtain ⟨X, hX⟩ : ∃ X : ByteArray, X = ⟨(rcV l k).toArray⟩ := ⟨_, rfl⟩
      obtain ⟨Y, hY⟩ : ∃ Y : ByteArray, Y = ⟨(hexS [l.getD k 0]).toArray⟩ := ⟨_, rfl⟩
      have hxs : X.size ≤ 48 := by rw [hX]; have : (⟨(rcV l k).toArray⟩ : ByteArray).size = (rcV l k).length := by simp [ByteArray.size]
                                   omega
      have hys : Y.size ≤ 2 := by rw [hY]; have : (⟨(hexS [l.getD k 0]).toArray⟩ : ByteArray).size = (hexS [l.getD k 0]).length := by simp [ByteArray.size]
                                  omega
      rw [← hY] at HH
      rw [← hX]
      have HX := hide hX
      have HY := hide hY
      have HD := hide hds
      clear hX hY hdl hdl2 hds hg1 hcell
      have hov1 : ¬ 9223372036854775807 < X.size + 1 := by omega
      have hov2 : ¬ 9223372036854775807 < X.size + 1 + Y.size := by omega
      have hov3 : ¬ 9223372036854775807 < X.size + Y.size := by omega
      have htm : (k : Int).tmod 2 = ((k % 2 : Nat) : Int) := by rw [Int.tmod_eq_emod_of_nonneg (by omega)]; omega
      by_cases h0 : 0 < k
      · have hpos : (0 : Int) < k := by omega
        by_cases h2 : k % 2 = 0
        · have h2b : (((k % 2 : Nat) : Int) == 0) = true := by rw [beq_iff_eq]; omega
          have H0 := hide (show 0 < k ∧ k % 2 = 0 from ⟨h0, h2⟩)
          clear h0 h2
          generalize k % 2 = km at *
          go_wp2_with (go_at_call 34; refine (HH.out _ (HT.out.only ho.out (by simp))).mono ?_; rintro e w2 ⟨rfl, ho2⟩; have HO2 := hide (ho.out.trans ho2); clear ho2)
          go_roundw
          case rel => exact ⟨k + 1, by omega, by go_num, congrArg Value.string (by rw [HX.out, HY.out, HD.out, if_pos H0.out, show (⟨#[58]⟩ : ByteArray) = ⟨[58].toArray⟩ from rfl, ba_append, ba_append]; simp), HO2⟩
          case measure => simp [intOf] <;> omega
        · have h2b : (((k % 2 : Nat) : Int) == 0) = false := by rw [beq_eq_false_iff_ne]; omega
          have H0 := hide (show ¬ (0 < k ∧ k % 2 = 0) from fun h => h2 h.2)
          clear h0 h2
          generalize k % 2 = km at *
          go_wp2_with (go_at_call 34; refine (HH.out _ (HT.out.only ho.out (by simp))).mono ?_; rintro e w2 ⟨rfl, ho2⟩; have HO2 := hide (ho.out.trans ho2); clear ho2)
          go_roundw
          case rel => exact ⟨k + 1, by omega, by go_num, congrArg Value.string (by rw [HX.out, HY.out, HD.out, if_neg H0.out, ba_append]; simp), HO2⟩
          case measure => simp [intOf] <;> omega
      · have hzero : ¬ (0 : Int) < k := by omega
        have H0 := hide (show ¬ (0 < k ∧ k % 2 = 0) from fun h => h0 h.1)
        clear h0
        go_wp2_with (go_at_call 34; refine (HH.out _ (HT.out.only ho.out (by simp))).mono ?_; rintro e w2 ⟨rfl, ho2⟩; have HO2 := hide (ho.out.trans ho2); clear ho2)
        go_roundw
        case rel => exact ⟨k + 1, by omega, by go_num, congrArg Value.string (by rw [HX.out, HY.out, HD.out, if_neg H0.out, ba_append]; simp), HO2⟩
        case measure => simp [intOf] <;> omega
    · have hltI : ¬ (k : Int) < 16 := by omega
      obtain rfl : k = 16 := by omega
      go_wp2_with fail
      go_ret
      exact strpost (by rw [← rc_col l 8]) ho.out
theorem refPrint_addr (v : Value) (l : List UInt8) (N : List Nat) (w : World) (hv : Rd w N v (ints .u8 (byts l))) (h : l.length = 4 ∨ l.length = 16) : Calls Tryd.prog 14 #[v] w (StrPost (printV l) w) := by
  unfold printV
  rcases h with h | h
  · rw [if_pos h]; exact refprint_four v l N w hv h
  · rw [if_neg (by omega)]; exact refprint_sixteen v l N w hv h
end
end Go.Proofs.YthecnaclfhfilaaDoor

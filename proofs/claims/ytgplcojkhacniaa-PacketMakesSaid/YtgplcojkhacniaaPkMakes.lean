/-
  PacketMakes: what is made is read: of any addresses and data the packet is what the chapter says, or there is its error; padded it has the same header and data. Proved for every input; no condition.
-/
import Derived.Test.YtgplcojkhacniaaRows
import Derived.Test.YtgplcojkhacniaaPkP
namespace Go.Proofs.Ytgplcojkhacniaa
open Go.RowKit Go.Deep Go.ChangeShapes Go.WideShapes Go.ChangeAt

theorem make_any (w : World) (v1 v2 v3 : Value) (N1 N2 N3 : List Nat) (s d x : List UInt8) (h1 : Rd w N1 v1 (ints .u8 (byts s))) (h2 : Rd w N2 v2 (ints .u8 (byts d))) (h3 : Rd w N3 v3 (ints .u8 (byts x))) :
    Calls Try.prog 12 #[v1, v2, v3] w (MkPost (mkV s d x) w) := by
  by_cases hb : s.length ≠ d.length ∨ (s.length ≠ 4 ∧ s.length ≠ 16)
  · exact make_bad w v1 v2 v3 N1 N2 N3 s d x h1 h2 h3 hb
  · by_cases h4 : s.length = 4
    · rcases Nat.lt_or_ge 2000 (20 + x.length) with h | h
      · exact make_long4 w v1 v2 v3 N1 N2 N3 s d x h1 h2 h3 h4 (by omega) h
      · exact make_4 w v1 v2 v3 N1 N2 N3 s d x h1 h2 h3 h4 (by omega) h
    · rcases Nat.lt_or_ge 2000 (40 + x.length) with h | h
      · exact make_long16 w v1 v2 v3 N1 N2 N3 s d x h1 h2 h3 (by omega) (by omega) h
      · exact make_16 w v1 v2 v3 N1 N2 N3 s d x h1 h2 h3 (by omega) (by omega) h
theorem refmake_any (w : World) (v1 v2 v3 : Value) (N1 N2 N3 : List Nat) (s d x : List UInt8) (h1 : Rd w N1 v1 (ints .u8 (byts s))) (h2 : Rd w N2 v2 (ints .u8 (byts d))) (h3 : Rd w N3 v3 (ints .u8 (byts x))) (h3000 : x.length ≤ 3000) :
    Calls Try.prog 13 #[v1, v2, v3] w (MkPost (mkV s d x) w) := by
  by_cases hb : s.length ≠ d.length ∨ (s.length ≠ 4 ∧ s.length ≠ 16)
  · exact refmake_bad w v1 v2 v3 N1 N2 N3 s d x h1 h2 h3 hb
  · by_cases h4 : s.length = 4
    · rcases Nat.lt_or_ge 2000 (20 + x.length) with h | h
      · exact refmake_long4 w v1 v2 v3 N1 N2 N3 s d x h1 h2 h3 h4 (by omega) h h3000
      · exact refmake_4 w v1 v2 v3 N1 N2 N3 s d x h1 h2 h3 h4 (by omega) h
    · rcases Nat.lt_or_ge 2000 (40 + x.length) with h | h
      · exact refmake_long16 w v1 v2 v3 N1 N2 N3 s d x h1 h2 h3 (by omega) (by omega) h h3000
      · exact refmake_16 w v1 v2 v3 N1 N2 N3 s d x h1 h2 h3 (by omega) (by omega) h
theorem pad_byts (l : List UInt8) (m : Nat) : byts l ++ List.replicate m 0 = byts (l ++ List.replicate m 0) := by simp [byts]

set_option maxRecDepth 100000 in
theorem makes_long0 (w : World) (v1 v2 v3 : Value) (s d x : List UInt8) (n : Int) (r1 : Rd w [] v1 (ints .u8 (byts s))) (r2 : Rd w [] v2 (ints .u8 (byts d))) (r3 : Rd w [] v3 (ints .u8 (byts x)))  (h : 40 < s.length) :
    Calls Try.prog 4 #[v1, v2, v3, .int .i64 n] w fun e w' => e = .returned (.bool true) ∧ Only [] w w' := by
  obtain ⟨A1, c1, rfl, hc1, hm1⟩ := r1.formb
  obtain ⟨A2, c2, rfl, hc2, hm2⟩ := r2.formb
  obtain ⟨A3, c3, rfl, hc3, hm3⟩ := r3.formb
  unfold maxLen at hm1 hm2 hm3
  clear r1 r2 r3
  generalize s.length = n1 at *
  generalize d.length = n2 at *
  generalize x.length = n3 at *
  have e1 : (40 : Int) < n1 := by omega
  go_enter Try.func4, Try.ntmps4
  go_wp2_with (go_at_call 5; refine (awake5 _).mono ?_; rintro e w1 ⟨rfl, ho1⟩)
  go_ret
  exact ⟨rfl, ho1⟩

set_option maxRecDepth 100000 in
theorem makes_long1 (w : World) (v1 v2 v3 : Value) (s d x : List UInt8) (n : Int) (r1 : Rd w [] v1 (ints .u8 (byts s))) (r2 : Rd w [] v2 (ints .u8 (byts d))) (r3 : Rd w [] v3 (ints .u8 (byts x))) (h1 : s.length ≤ 40) (h : 40 < d.length) :
    Calls Try.prog 4 #[v1, v2, v3, .int .i64 n] w fun e w' => e = .returned (.bool true) ∧ Only [] w w' := by
  obtain ⟨A1, c1, rfl, hc1, hm1⟩ := r1.formb
  obtain ⟨A2, c2, rfl, hc2, hm2⟩ := r2.formb
  obtain ⟨A3, c3, rfl, hc3, hm3⟩ := r3.formb
  unfold maxLen at hm1 hm2 hm3
  clear r1 r2 r3
  generalize s.length = n1 at *
  generalize d.length = n2 at *
  generalize x.length = n3 at *
  have e1 : decide ((40 : Int) < n1) = false := by (rw [decide_eq_false_iff_not]; omega)
  have e2 : (40 : Int) < n2 := by omega
  go_enter Try.func4, Try.ntmps4
  go_wp2_with (go_at_call 5; refine (awake5 _).mono ?_; rintro e w1 ⟨rfl, ho1⟩)
  go_ret
  exact ⟨rfl, ho1⟩

set_option maxRecDepth 100000 in
theorem makes_long2 (w : World) (v1 v2 v3 : Value) (s d x : List UInt8) (n : Int) (r1 : Rd w [] v1 (ints .u8 (byts s))) (r2 : Rd w [] v2 (ints .u8 (byts d))) (r3 : Rd w [] v3 (ints .u8 (byts x))) (h1 : s.length ≤ 40) (h2 : d.length ≤ 40) (h : 3000 < x.length) :
    Calls Try.prog 4 #[v1, v2, v3, .int .i64 n] w fun e w' => e = .returned (.bool true) ∧ Only [] w w' := by
  obtain ⟨A1, c1, rfl, hc1, hm1⟩ := r1.formb
  obtain ⟨A2, c2, rfl, hc2, hm2⟩ := r2.formb
  obtain ⟨A3, c3, rfl, hc3, hm3⟩ := r3.formb
  unfold maxLen at hm1 hm2 hm3
  clear r1 r2 r3
  generalize s.length = n1 at *
  generalize d.length = n2 at *
  generalize x.length = n3 at *
  have e1 : decide ((40 : Int) < n1) = false := by (rw [decide_eq_false_iff_not]; omega)
  have e2 : decide ((40 : Int) < n2) = false := by (rw [decide_eq_false_iff_not]; omega)
  have e3 : (3000 : Int) < n3 := by omega
  go_enter Try.func4, Try.ntmps4
  go_wp2_with (go_at_call 5; refine (awake5 _).mono ?_; rintro e w1 ⟨rfl, ho1⟩)
  go_ret
  exact ⟨rfl, ho1⟩

set_option maxRecDepth 100000 in
theorem makes_long3 (w : World) (v1 v2 v3 : Value) (s d x : List UInt8) (n : Int) (r1 : Rd w [] v1 (ints .u8 (byts s))) (r2 : Rd w [] v2 (ints .u8 (byts d))) (r3 : Rd w [] v3 (ints .u8 (byts x))) (h1 : s.length ≤ 40) (h2 : d.length ≤ 40) (h3 : x.length ≤ 3000) (h : 5000 < n) :
    Calls Try.prog 4 #[v1, v2, v3, .int .i64 n] w fun e w' => e = .returned (.bool true) ∧ Only [] w w' := by
  obtain ⟨A1, c1, rfl, hc1, hm1⟩ := r1.formb
  obtain ⟨A2, c2, rfl, hc2, hm2⟩ := r2.formb
  obtain ⟨A3, c3, rfl, hc3, hm3⟩ := r3.formb
  unfold maxLen at hm1 hm2 hm3
  clear r1 r2 r3
  generalize s.length = n1 at *
  generalize d.length = n2 at *
  generalize x.length = n3 at *
  have e1 : decide ((40 : Int) < n1) = false := by (rw [decide_eq_false_iff_not]; omega)
  have e2 : decide ((40 : Int) < n2) = false := by (rw [decide_eq_false_iff_not]; omega)
  have e3 : decide ((3000 : Int) < n3) = false := by (rw [decide_eq_false_iff_not]; omega)
  go_enter Try.func4, Try.ntmps4
  go_wp2_with (go_at_call 5; refine (awake5 _).mono ?_; rintro e w1 ⟨rfl, ho1⟩)
  go_ret
  exact ⟨rfl, ho1⟩

theorem bt_pad (L : List UInt8) (m k : Nat) (h : L.length ≤ k) : bt (L ++ List.replicate m 0) k = 0 := by
  unfold bt
  rw [List.getD_eq_getElem?_getD, List.getElem?_append_right h, List.getElem?_replicate]
  split <;> rfl

set_option maxRecDepth 100000 in
set_option maxHeartbeats 6400000 in
theorem makes_walk (w : World) (v1 v2 v3 : Value) (s d x : List UInt8) (n : Int) (h1 : Rd w [] v1 (ints .u8 (byts s))) (h2 : Rd w [] v2 (ints .u8 (byts d))) (h3 : Rd w [] v3 (ints .u8 (byts x)))
    (hs : s.length ≤ 40) (hd : d.length ≤ 40) (hx : x.length ≤ 3000) (hn : n ≤ 5000) (hn' : -9223372036854775808 ≤ n) :
    Calls Try.prog 4 #[v1, v2, v3, .int .i64 n] w fun e w' => e = .returned (.bool true) ∧ Only [] w w' := by
  have H1 := hide (show ∀ W, Only [] w W → Rd W [] v1 (ints .u8 (byts s)) from fun W ho => h1.only ho (by simp))
  have H2 := hide (show ∀ W, Only [] w W → Rd W [] v2 (ints .u8 (byts d)) from fun W ho => h2.only ho (by simp))
  have H3 := hide (show ∀ W, Only [] w W → Rd W [] v3 (ints .u8 (byts x)) from fun W ho => h3.only ho (by simp))
  have EM := hide (show ∀ W, Only [] w W → _ from fun W ho => make_any W v1 v2 v3 [] [] [] s d x (H1.out W ho) (H2.out W ho) (H3.out W ho))
  have EF := hide (show ∀ W, Only [] w W → _ from fun W ho => refmake_any W v1 v2 v3 [] [] [] s d x (H1.out W ho) (H2.out W ho) (H3.out W ho) hx)
  obtain ⟨A1, c1, rfl, hc1, hm1⟩ := h1.formb
  obtain ⟨A2, c2, rfl, hc2, hm2⟩ := h2.formb
  obtain ⟨A3, c3, rfl, hc3, hm3⟩ := h3.formb
  unfold maxLen at hm1 hm2 hm3
  have hml := mk_len s d x
  have hmr := fun z => mk_read s d x z
  generalize hV : mkV s d x = V at *
  obtain ⟨L, c⟩ := V
  simp only at hml hmr
  have hpad := pad_ok n L.length
  generalize hm : padN n L.length = m at *
  have HM := hide hm
  have HL := hide hml.1
  have HCN := hide hml.2
  have HR := hide hmr
  have HN := hide hn
  have HN' := hide hn'
  have g1 : ¬ (40 : Int) < s.length := by omega
  have g2 : ¬ (40 : Int) < d.length := by omega
  have g3 : ¬ (3000 : Int) < x.length := by omega
  have g4 : ¬ (5000 : Int) < n := by omega
  have hL0 := hml.1
  have hP : (L ++ List.replicate m 0).length = L.length + m := by simp
  clear h1 h2 h3 hs hd hx hV hml hmr hm
  obtain ⟨nL, hnL⟩ : ∃ nL, nL = L.length := ⟨_, rfl⟩
  have HNL := hide hnL
  have HNP := hide hP
  rw [← hnL] at hpad hL0
  clear hnL hP
  obtain ⟨nP, hnP⟩ : ∃ nP, nP = nL + m := ⟨_, rfl⟩
  have HNP := hide (show (L ++ List.replicate m 0).length = nP by rw [HNP.out, ← HNL.out]; exact hnP.symm)
  have key : (n < 1 ∧ nP = nL) ∨ (1 ≤ n ∧ (nP : Int) % n = 0 ∧ (nP : Int) - nL < n) := by
    rcases Int.lt_or_le n 1 with h | h
    · exact .inl ⟨h, by have := hpad.1 h; omega⟩
    · obtain ⟨p1, p2⟩ := hpad.2 h
      obtain ⟨k, rfl⟩ := Int.eq_ofNat_of_zero_le (show 0 ≤ n by omega)
      rw [Int.toNat_natCast] at p1 p2
      rw [← hnP] at p1
      exact .inr ⟨h, by exact_mod_cast congrArg (Nat.cast : Nat → Int) p1, by omega⟩
  have hle : nL ≤ nP := by omega
  have hle' : (nL : Int) ≤ nP := by omega
  have hle0 : ¬ (nP : Int) < nL := by omega
  have hmle : nP ≤ 7000 := by
    rcases key with ⟨_, h⟩ | ⟨_, _, h⟩ <;> omega
  clear hpad hnP
  have key2 : (n < 1 ∧ ((nP : Int) != nL) = false) ∨ (1 ≤ n ∧ ((nP : Int) % n != 0) = false ∧ ¬ n ≤ (nP : Int) - nL) := by
    rcases key with ⟨h1, h2⟩ | ⟨h1, h2, h3⟩
    · exact .inl ⟨h1, by rw [bne_eq_false_iff_eq]; omega⟩
    · exact .inr ⟨h1, by rw [bne_eq_false_iff_eq]; exact h2, by omega⟩
  clear key
  go_enter Try.func4, Try.ntmps4
  go_upto_region 8 with (first
    | (go_at_call 5; refine (awake5 _).mono ?_; rintro e w1 ⟨rfl, ho1⟩; have HO1 := hide ho1; clear ho1)
    | (go_at_call 12; refine (EM.out _ HO1.out).mono ?_; rintro e w2 ⟨vb, rfl, how, ho⟩; have RB := hide (how.rd (N := []) (by simp)); obtain ⟨Ab, cb, rfl, hcb, hmb⟩ := RB.out.formb; rw [← HNL.out] at RB hcb ⊢; have HO2 := hide (HO1.out.trans ho); clear how ho)
    | (go_at_call 13; refine (EF.out _ HO2.out).mono ?_; rintro e w3 ⟨vw, rfl, how, ho⟩; have RW := hide (how.rd (N := []) (by simp)); obtain ⟨Aw, cw, rfl, _, _⟩ := RW.out.formb; rw [← HNL.out] at RW ⊢; have RB := hide (RB.out.only ho (by simp)); have HO3 := hide (HO2.out.trans ho); clear how ho)
    | (go_at_call 14; refine (pad_any _ [] _ L n (by exact RB.out) (by have := HL.out; omega) HN.out HN'.out).mono ?_; rintro e w4 ⟨vp, rfl, how, ho⟩; rw [HM.out, pad_byts] at how; have RP := hide (how.rd (N := []) (by simp)); obtain ⟨Ap, cp, rfl, hcp, hmp⟩ := RP.out.formb; rw [HNP.out] at RP hcp ⊢; have RB := hide (RB.out.only ho (by simp)); have RW := hide (RW.out.only ho (by simp)); have HO4 := hide (HO3.out.trans ho); clear how ho))
  have q1 : (nL : Int) ≤ cp := by omega
  have q2 : (nP : Int) ≤ cp := by omega
  unfold maxLen at hmp hmb
  have RT := hide (RP.out.take nL hle)
  have hT : List.take nL (L ++ List.replicate m (0 : UInt8)) = L := List.take_left' HNL.out.symm
  rw [ints_take, byts_take, hT] at RT
  clear hT
  have HQ := hide hle
  rcases key2 with ⟨k1, k2⟩ | ⟨k1, k2, k3⟩
  all_goals
    go_upto_region 13 with (first
      | (go_at_call_of 11 (Value.slice Ab nL cb); refine (same_true _ _ L [] [] _ RB.out RW.out).mono ?_; rintro e w' ⟨rfl, rfl⟩)
      | (go_at_call_of 11 (Value.slice Ap nL cp); refine (same_true _ _ L [] [] _ RT.out RB.out).mono ?_; rintro e w' ⟨rfl, rfl⟩))
    go_loop [14] (fun i => ∃ k : Nat, nL ≤ k ∧ k ≤ nP ∧ i = .int .i64 k) (fun i => nP - (intOf i).toNat)
    case atStart => exact ⟨nL, Nat.le_refl _, hle, rfl⟩
    case round =>
      obtain ⟨k, hk1, hk2, rfl⟩ := hrel
      by_cases hlt : k < nP
      · have hltI : (k : Int) < nP := by omega
        have hk : k < (L ++ List.replicate m 0).length := by rw [HNP.out]; exact hlt
        have hb := rd_some (by rw [← HNP.out] at RP; exact RP.out) (show 0 < (L ++ List.replicate m 0).length by omega)
        obtain ⟨gp, op, rfl, _, _⟩ := hb
        have hcell := rd_bt RP.out hk
        rw [bt_pad L m k (by have := HNL.out; omega)] at hcell
        clear hk
        go_wp2_with fail
        go_round
        case rel => exact ⟨k + 1, by omega, by omega, by go_num⟩
        case measure => simp [intOf]; omega
      · have hltI : ¬ (k : Int) < nP := by omega
        by_cases hc : c = 0
        · obtain ⟨e1, e2, e3, e4, e5, e6⟩ := HR.out (List.replicate m 0) hc
          have hcB : ((c : Int) != 0) = false := by rw [bne_eq_false_iff_eq]; omega
          have hrd := fun W (ho : Only [] w4 W) => read_ok W [] _ _ (RP.out.only (N := []) ho (by simp)) e1
          rw [e2, e3, e4, ← HNL.out] at hrd
          have hdd := fun W (ho : Only [] w4 W) => data_any W [] _ _ (RP.out.only (N := []) ho (by simp))
          rw [if_pos e1, e5, e1] at hdd
          have htt := fun W (ho : Only [] w4 W) => trim_any W [] _ _ (RP.out.only (N := []) ho (by simp))
          rw [if_pos e1, e6, e1] at htt
          have HRD := hide hrd
          have HDD := hide hdd
          have HTT := hide htt
          clear hc e1 e2 e3 e4 e5 e6 hrd hdd htt
          generalize bt (L ++ List.replicate m 0) 0 / 16 = ver at *
          go_upto_region 22 with (first
            | (go_at_call 6; refine (HRD.out _ (Only.refl _ _)).mono ?_; rintro e w5 ⟨s', d', rfl, hs, hd, ho⟩; have RS := hide (hs.rd (N := []) (by simp)); have RD := hide (hd.rd (N := []) (by simp)); obtain ⟨As, cs, rfl, _, _⟩ := RS.out.formb; obtain ⟨Ad, cd, rfl, _, _⟩ := RD.out.formb; have H5 := hide (ho.alloc (.cells #[.int .i64 (ver : Int), .slice As s.length cs, .slice Ad d.length cd, .int .i64 nL] 25)); have HB := hide (Blk.new w5 25 #[.int .i64 (ver : Int), .slice As s.length cs, .slice Ad d.length cd, .int .i64 nL]); have RS := hide (RS.out.only ((Only.refl [] _).alloc (.cells #[.int .i64 (ver : Int), .slice As s.length cs, .slice Ad d.length cd, .int .i64 nL] 25)) (by simp)); have RD := hide (RD.out.only ((Only.refl [] _).alloc (.cells #[.int .i64 (ver : Int), .slice As s.length cs, .slice Ad d.length cd, .int .i64 nL] 25)) (by simp)); clear hs hd ho)
            | (go_at_call 8; refine (HDD.out _ H5.out).mono ?_; rintro e w6 ⟨vd, rfl, how, ho⟩; have RX := hide (how.rd (N := []) (by simp)); obtain ⟨Ax, cx, rfl, _, _⟩ := RX.out.formb; have H6 := hide (H5.out.trans ho); have HB := hide (HB.out.only ho (by simp)); have RS := hide (RS.out.only ho (by simp)); have RD := hide (RD.out.only ho (by simp)); clear how ho)
            | (go_at_call 7; refine (HTT.out _ H6.out).mono ?_; rintro e w7 ⟨vt, rfl, how, ho⟩; have RL := hide (how.rd (N := []) (by simp)); obtain ⟨Al, cl, rfl, _, _⟩ := RL.out.formb; rw [← HNL.out] at RL ⊢; have H7 := hide (H6.out.trans ho); have HB := hide (HB.out.only ho (by simp)); have RS := hide (RS.out.only ho (by simp)); have RD := hide (RD.out.only ho (by simp)); have RX := hide (RX.out.only ho (by simp)); clear how ho))
          have j0 := HB.out.cell 0
          have j1 := HB.out.cell 1
          have j2 := HB.out.cell 2
          have j3 := HB.out.cell 3
          simp at j0 j1 j2 j3
          have HO7 := hide (HO4.out.trans H7.out)
          have RB7 := hide (RB.out.only H7.out (by simp))
          go_wp2_with (first
            | (go_at_call_of 11 (Value.slice As s.length cs); refine (same_true _ _ s [] [] _ RS.out (H1.out _ HO7.out)).mono ?_; rintro e w' ⟨rfl, rfl⟩)
            | (go_at_call_of 11 (Value.slice Ad d.length cd); refine (same_true _ _ d [] [] _ RD.out (H2.out _ HO7.out)).mono ?_; rintro e w' ⟨rfl, rfl⟩)
            | (go_at_call_of 11 (Value.slice Ax x.length cx); refine (same_true _ _ x [] [] _ RX.out (H3.out _ HO7.out)).mono ?_; rintro e w' ⟨rfl, rfl⟩)
            | (go_at_call_of 11 (Value.slice Al nL cl); refine (same_true _ _ L [] [] _ RL.out RB7.out).mono ?_; rintro e w' ⟨rfl, rfl⟩))
          go_ret
          exact ⟨rfl, HO7.out⟩
        · have hcB : ((c : Int) != 0) = true := by rw [bne_iff_ne]; omega
          have hn0 : ((nL : Int) == 0) = true := by
            have := HNL.out
            rw [HCN.out hc] at this
            rw [this]; rfl
          clear hc
          go_wp2_with fail
          go_ret
          exact ⟨rfl, HO4.out⟩

theorem i64_of {n : Int} (h : (Lit.int .i64 n).wf = true) : -9223372036854775808 ≤ n := by
  simp only [Lit.wf, Bool.and_eq_true, decide_eq_true_eq] at h
  have e1 : IntKind.i64.min = -9223372036854775808 := rfl
  omega
theorem makes_law (v1 : Value) (z1 : List Int) {w : World} (h1 : Rd w [] v1 (ints .u8 z1)) (f1 : ∀ n ∈ z1, (Lit.int .u8 n).wf = true) (v2 : Value) (z2 : List Int) (h2 : Rd w [] v2 (ints .u8 z2)) (f2 : ∀ n ∈ z2, (Lit.int .u8 n).wf = true)
    (v3 : Value) (z3 : List Int) (h3 : Rd w [] v3 (ints .u8 z3)) (f3 : ∀ n ∈ z3, (Lit.int .u8 n).wf = true) (n : Int) (hn : (Lit.int .i64 n).wf = true) :
    Calls Try.prog 4 #[v1, v2, v3, .int .i64 n] w fun e w' => e = .returned (.bool true) ∧ Only [] w w' := by
  obtain ⟨s, rfl⟩ := bytes_law z1 f1
  obtain ⟨d, rfl⟩ := bytes_law z2 f2
  obtain ⟨x, rfl⟩ := bytes_law z3 f3
  rcases Nat.lt_or_ge 40 s.length with hs | hs
  · exact makes_long0 w v1 v2 v3 s d x n h1 h2 h3 hs
  rcases Nat.lt_or_ge 40 d.length with hd | hd
  · exact makes_long1 w v1 v2 v3 s d x n h1 h2 h3 hs hd
  rcases Nat.lt_or_ge 3000 x.length with hx | hx
  · exact makes_long2 w v1 v2 v3 s d x n h1 h2 h3 hs hd hx
  rcases Int.lt_or_le 5000 n with hN | hN
  · exact makes_long3 w v1 v2 v3 s d x n h1 h2 h3 hs hd hx hN
  exact makes_walk w v1 v2 v3 s d x n h1 h2 h3 hs hd hx hN (i64_of hn)

theorem own_packetMakes : ownKnob Try.prog.godebug = none := by kernel_rfl
theorem laidOut_packetMakes : laidOutB Try.prog = true := by kernel_rfl

set_option maxRecDepth 100000 in
theorem lifted_packetMakes (os : Os) (started : os.Started) (H : Type) (enc : TypeId × Value → H) :
    ReturnsInHanded {} Try.checked os 4 .any (Rows.packetMakesSpec.pre6 enc Try.prog Try.f4 Rows.packetMakesRow.domain false) (Rows.packetMakesSpec.post enc Try.prog Try.f4 false true false false) := by
  refine returnsInHanded_of_change (C := Try.checked) own_packetMakes started (by kernel_rfl) Try.func4
    (ChangeSpec.witness6 (enc := enc) (C := Try.checked) false ⟨#[], #[.slice none 0 0, .slice none 0 0, .slice none 0 0, .int .i64 0], []⟩ 8 (by kernel_rfl) (by kernel_rfl) (by kernel_rfl) (by kernel_rfl)) ?_
  intro W base args ds gs before hval0 hW hcnd _
  have hval : ∀ (j : Nat) t v, Try.f4.params[j]? = some t → args[j]? = some v → Value.okWide Try.prog W .any base t v := hval0
  have hW' := hW
  obtain ⟨p, q, hA0, hV, rfl, hfz, hnd⟩ := hW
  have hA : DataW.TrodAll enc Try.prog W 0 (fun _ => true) true Try.f4.params.toList args.toList ds p := hA0
  rw [Try.params4] at hA hval
  obtain ⟨v0, vs0, d0, ds0, p0, q0, hargs, rfl, rfl, h0, r0⟩ := trodAll_cons hA
  obtain ⟨v1, vs1, d1, ds1, p1, q1, rfl, rfl, rfl, h1, r1⟩ := trodAll_cons r0
  obtain ⟨v2, vs2, d2, ds2, p2, q2, rfl, rfl, rfl, h2, r2⟩ := trodAll_cons r1
  obtain ⟨v3, vs3, d3, ds3, p3, q3, rfl, rfl, rfl, h3, r3⟩ := trodAll_cons r2
  obtain ⟨rfl, rfl, rfl⟩ := trodAll_nil r3
  obtain rfl : args = #[v0, v1, v2, v3] := by cases args; simp_all
  obtain ⟨rfl, rfl⟩ := trodVars_none hV
  obtain ⟨a0, len0, cap0, rfl⟩ := okWide_slice Try.underlying22 (hval 0 22 v0 rfl rfl)
  have k0 := h0
  have lt0 : ∀ x ∈ p0, x.block < W.heap.size := by obtain ⟨m, hm⟩ := k0; exact DataW.trod_lt m _ _ _ hm
  obtain ⟨z0, w0, f0⟩ := rd_of_trod (k := .u8) Try.underlying22 Try.underlying5 (by kernel_rfl) h0
  obtain ⟨a1, len1, cap1, rfl⟩ := okWide_slice Try.underlying22 (hval 1 22 v1 rfl rfl)
  have k1 := h1
  have lt1 : ∀ x ∈ p1, x.block < W.heap.size := by obtain ⟨m, hm⟩ := k1; exact DataW.trod_lt m _ _ _ hm
  obtain ⟨z1, w1, f1⟩ := rd_of_trod (k := .u8) Try.underlying22 Try.underlying5 (by kernel_rfl) h1
  obtain ⟨a2, len2, cap2, rfl⟩ := okWide_slice Try.underlying22 (hval 2 22 v2 rfl rfl)
  have k2 := h2
  have lt2 : ∀ x ∈ p2, x.block < W.heap.size := by obtain ⟨m, hm⟩ := k2; exact DataW.trod_lt m _ _ _ hm
  obtain ⟨z2, w2, f2⟩ := rd_of_trod (k := .u8) Try.underlying22 Try.underlying5 (by kernel_rfl) h2
  obtain ⟨a3, rfl, rfl, rfl, w3⟩ := open_int Try.underlying3 (hval 3 3 v3 rfl rfl) h3
  clear hA0 hval0
  refine (makes_law _ z0 w0 f0 _ z1 w1 f1 _ z2 w2 f2 a3 w3).mono fun e W' ⟨he, hon⟩ => ?_
  subst he
  have bel : Below W.heap.size W W' := hon.below (fun x hx => by cases hx) (Nat.le_refl _)
  exact ⟨_, rfl, _, _, _, [], _, [], hW', trodAll_mk1 (shut_bool Try.underlying4 _), (trodAll_cons_mk (Below.trod laidOut_packetMakes (by kernel_rfl) (of_decide_eq_true (by kernel_rfl)) k0 bel lt0) (trodAll_cons_mk (Below.trod laidOut_packetMakes (by kernel_rfl) (of_decide_eq_true (by kernel_rfl)) k1 bel lt1) (trodAll_cons_mk (Below.trod laidOut_packetMakes (by kernel_rfl) (of_decide_eq_true (by kernel_rfl)) k2 bel lt2) (trodAll_cons_mk (shut_int Try.underlying3 w3) trodAll_mk0)))), rfl, bel.frame _, fun h => by cases h⟩

theorem over_packetMakes : Rows.packetMakesRow.holds Try.pinned (OpenSpec.ofChange Rows.packetMakesSpec) :=
  OpenClaim.holds_of_wide 4 Try.f4 rfl rfl rfl rfl rfl rfl rfl ⟨rfl, rfl, rfl, rfl, rfl⟩ rfl rfl rfl rfl rfl (by kernel_rfl) Try.func4 (by kernel_rfl)
    (of_decide_eq_true (by kernel_rfl)) (by unfold Func.isWrapper; first | (rw [if_pos (by decide +kernel)]; kernel_rfl) | (rw [if_neg (by decide +kernel)]; exact ⟨rfl, rfl⟩))
    (fun os started H enc _ => lifted_packetMakes os started H enc)

theorem packetMakes_proved : Rows.PacketMakesSaid := over_packetMakes
#print axioms packetMakes_proved
end Go.Proofs.Ytgplcojkhacniaa

/-
  PacketReads: any bytes have the header, the packet without filling, and the data, that the chapter says, or there is its error. Proved for every input; no condition.
-/
import Derived.Test.YtgplcojkhacniaaRows
import Derived.Test.YtgplcojkhacniaaOpen
import Derived.Test.YtgplcojkhacniaaPkL
namespace Go.Proofs.Ytgplcojkhacniaa
open Go.RowKit Go.Deep Go.ChangeShapes Go.WideShapes Go.ChangeAt

def srcV (l : List UInt8) : List UInt8 := if bt l 0 / 16 = 4 then (l.take 16).drop 12 else (l.take 24).drop 8
def dstV (l : List UInt8) : List UInt8 := if bt l 0 / 16 = 4 then (l.take 20).drop 16 else (l.take 40).drop 24

theorem read_ok (w : World) (N : List Nat) (v : Value) (l : List UInt8) (hv : Rd w N v (ints .u8 (byts l))) (hb : (bndV l).2.2 = 0) :
    Calls Try.prog 6 #[v] w fun e w' => ∃ s d, e = .returned (.tuple #[.agg #[.int .i64 ((bt l 0 / 16 : Nat) : Int), s, d, .int .i64 (bndV l).2.1], .int .i64 0]) ∧
      OwnB w' w.heap.size s (byts (srcV l)) ∧ OwnB w' w.heap.size d (byts (dstV l)) ∧ Only [] w w' := by
  obtain ⟨_, _, _, _, _, h⟩ := bnd_ok l hb
  unfold srcV dstV
  rcases h with ⟨h4, _⟩ | ⟨h6, _⟩
  · rw [if_pos h4, if_pos h4, h4]
    exact read_4 w N v l hv hb h4
  · have h4 : ¬ bt l 0 / 16 = 4 := by omega
    rw [if_neg h4, if_neg h4, h6]
    exact read_6 w N v l hv hb h6

theorem refread_bad (w : World) (N : List Nat) (v : Value) (l : List UInt8) (hv : Rd w N v (ints .u8 (byts l))) (hb : (bndV l).2.2 ≠ 0) :
    Calls Try.prog 9 #[v] w fun e w' => e = .returned (.tuple #[.agg #[.int .i64 0, .slice none 0 0, .slice none 0 0, .int .i64 0], .int .i64 (bndV l).1, .int .i64 (bndV l).2.2]) ∧ Only [] w w' := by
  obtain ⟨A, cap, rfl, hc, hm⟩ := hv.formb
  rcases Nat.eq_zero_or_pos l.length with h0 | h0
  · obtain rfl : l = [] := List.eq_nil_of_length_eq_zero h0
    exact (refread_nil w A cap 0 0).mono fun e w' ⟨he, ho⟩ => ⟨he, ho⟩
  · obtain ⟨g, o, rfl, _, _⟩ := rd_some hv h0
    have key : Calls Try.prog 9 #[.slice (some ⟨g, o, none⟩) l.length cap] w (RefPost g o cap (bt l 0) (bndV l) w) := by
      rcases Nat.lt_or_ge l.length 20 with h | h
      · exact refread_short w N g o cap l hv h0 h
      · rcases Nat.lt_or_ge l.length 40 with h' | h'
        · exact refread_mid w N g o cap l hv h h'
        · exact refread_long w N g o cap l hv h'
    exact key.mono fun e w' ⟨he, ho⟩ => ⟨by rw [he, if_neg hb], ho⟩

theorem refread_ok (w : World) (N : List Nat) (v : Value) (l : List UInt8) (hv : Rd w N v (ints .u8 (byts l))) (hb : (bndV l).2.2 = 0) :
    Calls Try.prog 9 #[v] w fun e w' => ∃ s d, e = .returned (.tuple #[.agg #[.int .i64 ((bt l 0 / 16 : Nat) : Int), s, d, .int .i64 (bndV l).2.1], .int .i64 (bndV l).1, .int .i64 0]) ∧
      Rd w' N s (ints .u8 (byts (srcV l))) ∧ Rd w' N d (ints .u8 (byts (dstV l))) ∧ Only [] w w' := by
  obtain ⟨A, cap, rfl, hc, hm⟩ := hv.formb
  obtain ⟨_, _, _, _, h0, h⟩ := bnd_ok l hb
  obtain ⟨g, o, rfl, _, _⟩ := rd_some hv h0
  have key : Calls Try.prog 9 #[.slice (some ⟨g, o, none⟩) l.length cap] w (RefPost g o cap (bt l 0) (bndV l) w) := by
    rcases Nat.lt_or_ge l.length 40 with h' | h'
    · exact refread_mid w N g o cap l hv (by omega) h'
    · exact refread_long w N g o cap l hv h'
  refine key.mono fun e w' ⟨he, ho⟩ => ?_
  unfold srcV dstV
  rcases h with ⟨h4, h20⟩ | ⟨h6, h40, _⟩
  · rw [if_pos hb, if_pos h4, hb] at he
    rw [if_pos h4, if_pos h4, h4]
    have R1 := hv.cut 12 16 (cap - 12) (some ⟨g, o + 12, none⟩) (by omega) (by omega) (fun _ => rfl) (by omega) (by omega)
    have R2 := hv.cut 16 20 (cap - 16) (some ⟨g, o + 16, none⟩) (by omega) (by omega) (fun _ => rfl) (by omega) (by omega)
    rw [ints_take, byts_take, ints_drop, byts_drop] at R1 R2
    exact ⟨_, _, he, R1.only ho (by simp), R2.only ho (by simp), ho⟩
  · have h4 : ¬ bt l 0 / 16 = 4 := by omega
    rw [if_pos hb, if_neg h4, hb] at he
    rw [if_neg h4, if_neg h4, h6]
    have R1 := hv.cut 8 24 (cap - 8) (some ⟨g, o + 8, none⟩) (by omega) (by omega) (fun _ => rfl) (by omega) (by omega)
    have R2 := hv.cut 24 40 (cap - 24) (some ⟨g, o + 24, none⟩) (by omega) (by omega) (fun _ => rfl) (by omega) (by omega)
    rw [ints_take, byts_take, ints_drop, byts_drop] at R1 R2
    exact ⟨_, _, he, R1.only ho (by simp), R2.only ho (by simp), ho⟩

set_option maxRecDepth 100000 in
theorem reads_long (w : World) (v : Value) (l : List UInt8) (hv : Rd w [] v (ints .u8 (byts l))) (hl : 3000 < l.length) :
    Calls Try.prog 3 #[v] w fun e w' => e = .returned (.bool true) ∧ Only [] w w' := by
  obtain ⟨A, cap, rfl, hc, hm⟩ := hv.formb
  clear hv
  generalize l.length = n at *
  have hl' : (3000 : Int) < n := by omega
  go_enter Try.func3, Try.ntmps3
  go_wp2_with (go_at_call 5; refine (awake5 _).mono ?_; rintro e w1 ⟨rfl, ho1⟩)
  go_ret
  exact ⟨rfl, ho1⟩

set_option maxRecDepth 100000 in
set_option maxHeartbeats 3200000 in
theorem reads_bad (w : World) (v : Value) (l : List UInt8) (hv : Rd w [] v (ints .u8 (byts l))) (hl : l.length ≤ 3000) (hb : (bndV l).2.2 ≠ 0) :
    Calls Try.prog 3 #[v] w fun e w' => e = .returned (.bool true) ∧ Only [] w w' := by
  have hq : ((((bndV l).2.2 : Nat) : Int) != 0) = true := by rw [bne_iff_ne]; omega
  have HV := hide (show ∀ W, Only [] w W → Rd W [] v (ints .u8 (byts l)) from fun W ho => hv.only ho (by simp))
  have ER := hide (show ∀ W, Only [] w W → _ from fun W ho => read_bad W [] v l (HV.out W ho) hb)
  have EF := hide (show ∀ W, Only [] w W → _ from fun W ho => refread_bad W [] v l (HV.out W ho) hb)
  have ET := hide (show ∀ W, Only [] w W → Calls Try.prog 7 #[v] W (fun e w' => ∃ A c, e = .returned (.tuple #[.slice A 0 c, .int .i64 (bndV l).2.2]) ∧ Only [] W w') from fun W ho =>
    (trim_any W [] v l (HV.out W ho)).mono fun e w' ⟨v', he, how, ho⟩ => by
      rw [if_neg hb] at how
      obtain ⟨A, c, rfl, _⟩ := own_form how
      exact ⟨A, c, he, ho⟩)
  have ED := hide (show ∀ W, Only [] w W → Calls Try.prog 8 #[v] W (fun e w' => ∃ A c, e = .returned (.tuple #[.slice A 0 c, .int .i64 (bndV l).2.2]) ∧ Only [] W w') from fun W ho =>
    (data_any W [] v l (HV.out W ho)).mono fun e w' ⟨v', he, how, ho⟩ => by
      rw [if_neg hb] at how
      obtain ⟨A, c, rfl, _⟩ := own_form how
      exact ⟨A, c, he, ho⟩)
  obtain ⟨A, cap, rfl, hc, hm⟩ := hv.formb
  have hl' : ¬ (3000 : Int) < l.length := by omega
  clear hv hb HV
  generalize (bndV l).2.2 = c at *
  generalize (bndV l).1 = b at *
  generalize l.length = n at *
  go_enter Try.func3, Try.ntmps3
  go_upto_region 9 with (first
    | (go_at_call 5; refine (awake5 _).mono ?_; rintro e w1 ⟨rfl, ho1⟩; have HO1 := hide ho1; clear ho1)
    | (go_at_call 6; refine (ER.out _ HO1.out).mono ?_; rintro e w2 ⟨rfl, ho2⟩; have HB2 := hide (Blk.new w2 25 #[.int .i64 0, .slice none 0 0, .slice none 0 0, .int .i64 0]); have HO2 := hide ((HO1.out.trans ho2).alloc (.cells #[.int .i64 0, .slice none 0 0, .slice none 0 0, .int .i64 0] 25)); clear ho2)
    | (go_at_call 7; refine (ET.out _ HO2.out).mono ?_; rintro e w3 ⟨A3, c3, rfl, ho3⟩; have HB3 := hide (HB2.out.only ho3 (by simp)); have HO3 := hide (HO2.out.trans ho3); clear ho3)
    | (go_at_call 8; refine (ED.out _ HO3.out).mono ?_; rintro e w4 ⟨A4, c4, rfl, ho4⟩; have HB4 := hide (HB3.out.only ho4 (by simp)); have HO4 := hide (HO3.out.trans ho4); clear ho4)
    | (go_at_call 9; refine (EF.out _ HO4.out).mono ?_; rintro e w5 ⟨rfl, ho5⟩; have HB5 := hide ((HB4.out.only ho5 (by simp)).alloc (.cells #[.int .i64 0, .slice none 0 0, .slice none 0 0, .int .i64 0] 25)); have HO5 := hide ((HO4.out.trans ho5).alloc (.cells #[.int .i64 0, .slice none 0 0, .slice none 0 0, .int .i64 0] 25)); clear ho5))
  have k0 := HB5.out.cell 0
  have k1 := HB5.out.cell 1
  have k2 := HB5.out.cell 2
  have k3 := HB5.out.cell 3
  simp at k0 k1 k2 k3
  go_wp2_with (go_at_call 10; refine (hdr_same _ [] [] 0 0 _ _ _ _ [] [] (Rd.nil _ _) (Rd.nil _ _) (Rd.nil _ _) (Rd.nil _ _)).mono ?_; rintro e w6 ⟨rfl, ho6⟩; have HO6 := hide (HO5.out.trans ho6); clear ho6)
  go_ret
  exact ⟨rfl, HO6.out⟩

theorem bnd_le (l : List UInt8) (h : (bndV l).2.2 = 0) : (bndV l).1 ≤ (bndV l).2.1 ∧ (bndV l).2.1 ≤ l.length := by
  obtain ⟨_, h1, h2, _⟩ := bnd_ok l h
  exact ⟨h1, h2⟩

set_option maxRecDepth 100000 in
set_option maxHeartbeats 3200000 in
theorem reads_good (w : World) (v : Value) (l : List UInt8) (hv : Rd w [] v (ints .u8 (byts l))) (hl : l.length ≤ 3000) (hb : (bndV l).2.2 = 0) :
    Calls Try.prog 3 #[v] w fun e w' => e = .returned (.bool true) ∧ Only [] w w' := by
  have HV := hide (show ∀ W, Only [] w W → Rd W [] v (ints .u8 (byts l)) from fun W ho => hv.only ho (by simp))
  have ER := hide (show ∀ W, Only [] w W → _ from fun W ho => read_ok W [] v l (HV.out W ho) hb)
  have EF := hide (show ∀ W, Only [] w W → _ from fun W ho => refread_ok W [] v l (HV.out W ho) hb)
  have ET := hide (show ∀ W, Only [] w W → _ from fun W ho => trim_any W [] v l (HV.out W ho))
  have ED := hide (show ∀ W, Only [] w W → _ from fun W ho => data_any W [] v l (HV.out W ho))
  rw [if_pos hb, hb] at ET ED
  obtain ⟨A, cap, rfl, hc, hm⟩ := hv.formb
  obtain ⟨_, q1, q2, _, q5, _⟩ := bnd_ok l hb
  obtain ⟨g, o, rfl, hg, _⟩ := rd_some hv q5
  have HR1 := hide (show ∀ W, Only [] w W → Rd W [] (.slice (some ⟨g, o, none⟩) (bndV l).2.1 cap) (ints .u8 (byts (l.take (bndV l).2.1))) from fun W ho => by
    have h := (hv.only (N := []) ho (by simp)).take (bndV l).2.1 q2
    rwa [ints_take, byts_take] at h)
  have HR2 := hide (show ∀ W c' A', Only [] w W → ((bndV l).1 < (bndV l).2.1 → A' = some ⟨g, o + (bndV l).1, none⟩) → (bndV l).2.1 - (bndV l).1 ≤ c' → c' ≤ maxLen → Rd W [] (.slice A' ((bndV l).2.1 - (bndV l).1) c') (ints .u8 (byts ((l.take (bndV l).2.1).drop (bndV l).1))) from fun W c' A' ho hA h1 h2 => by
    have h := (hv.only (N := []) ho (by simp)).cut (bndV l).1 (bndV l).2.1 c' A' q1 q2 hA h1 h2
    rwa [ints_take, byts_take, ints_drop, byts_drop] at h)
  have hl' : ¬ (3000 : Int) < l.length := by omega
  have HM := hide hm
  unfold maxLen at hm
  have HM' := hide (show cap ≤ 9223372036854775807 by omega)
  clear hv hb HV hm q5
  generalize (l.take (bndV l).2.1).drop (bndV l).1 = dl at *
  generalize l.take (bndV l).2.1 = tl at *
  generalize srcV l = sl at *
  generalize dstV l = ddl at *
  generalize (bndV l).2.1 = wh at *
  generalize (bndV l).1 = hd at *
  generalize bt l 0 / 16 = ver at *
  generalize l.length = n at *
  have i1 : (hd : Int) ≤ wh := by omega
  have i2 : (wh : Int) ≤ n := by omega
  have i3 : (n : Int) ≤ cap := by omega
  go_enter Try.func3, Try.ntmps3
  go_upto_region 9 with (first
    | (go_at_call 5; refine (awake5 _).mono ?_; rintro e w1 ⟨rfl, ho1⟩; have HO1 := hide ho1; clear ho1)
    | (go_at_call 6; refine (ER.out _ HO1.out).mono ?_; rintro e w2 ⟨s, d, rfl, hs, hd, ho2⟩; have RS := hide (hs.rd (N := []) (by simp)); have RD := hide (hd.rd (N := []) (by simp)); obtain ⟨As, cs, rfl, _, _⟩ := own_form hs; obtain ⟨Ad, cd, rfl, _, _⟩ := own_form hd; have HO2 := hide ((HO1.out.trans ho2).alloc (.cells #[.int .i64 (ver : Int), .slice As (byts sl).length cs, .slice Ad (byts ddl).length cd, .int .i64 wh] 25)); have HB2 := hide (Blk.new w2 25 #[.int .i64 (ver : Int), .slice As (byts sl).length cs, .slice Ad (byts ddl).length cd, .int .i64 wh]); have RS := hide (RS.out.only ((Only.refl [] _).alloc (.cells #[.int .i64 (ver : Int), .slice As (byts sl).length cs, .slice Ad (byts ddl).length cd, .int .i64 wh] 25)) (by simp)); have RD := hide (RD.out.only ((Only.refl [] _).alloc (.cells #[.int .i64 (ver : Int), .slice As (byts sl).length cs, .slice Ad (byts ddl).length cd, .int .i64 wh] 25)) (by simp)); clear hs hd ho2)
    | (go_at_call 7; refine (ET.out _ HO2.out).mono ?_; rintro e w3 ⟨v3, rfl, how, ho3⟩; have R3 := hide (how.rd (N := []) (by simp)); obtain ⟨A3, c3, rfl, _, _⟩ := own_form how; have HO3 := hide (HO2.out.trans ho3); have H23 := hide ho3; clear how ho3)
    | (go_at_call 8; refine (ED.out _ HO3.out).mono ?_; rintro e w4 ⟨v4, rfl, how, ho4⟩; have R4 := hide (how.rd (N := []) (by simp)); obtain ⟨A4, c4, rfl, _, _⟩ := own_form how; have HO4 := hide (HO3.out.trans ho4); have H34 := hide ho4; clear how ho4)
    | (go_at_call 9; refine (EF.out _ HO4.out).mono ?_; rintro e w5 ⟨s2, d2, rfl, RS2, RD2, ho5⟩; have H45 := hide ho5; have HO5 := hide (HO4.out.trans ho5); have RS2 := hide RS2; have RD2 := hide RD2; obtain ⟨As2, cs2, rfl, _, _⟩ := RS2.out.formb; obtain ⟨Ad2, cd2, rfl, _, _⟩ := RD2.out.formb; clear ho5))
  have HBW := hide (Blk.new w5 25 #[.int .i64 (ver : Int), .slice As2 sl.length cs2, .slice Ad2 ddl.length cd2, .int .i64 wh])
  have H5 := hide ((Only.refl [] w5).alloc (.cells #[.int .i64 (ver : Int), .slice As2 sl.length cs2, .slice Ad2 ddl.length cd2, .int .i64 wh] 25))
  have H25 := hide (((H23.out.trans H34.out).trans H45.out).trans H5.out)
  have H35 := hide ((H34.out.trans H45.out).trans H5.out)
  have HB2 := hide (HB2.out.only H25.out (by simp))
  have RS := hide (RS.out.only H25.out (by simp))
  have RD := hide (RD.out.only H25.out (by simp))
  have R3 := hide (R3.out.only H35.out (by simp))
  have R4 := hide (R4.out.only (H45.out.trans H5.out) (by simp))
  have RS2 := hide (RS2.out.only H5.out (by simp))
  have RD2 := hide (RD2.out.only H5.out (by simp))
  have HO6 := hide (HO5.out.trans H5.out)
  have hw5 : w5.heap.size < (w5.alloc (.cells #[.int .i64 (ver : Int), .slice As2 sl.length cs2, .slice Ad2 ddl.length cd2, .int .i64 wh] 25)).heap.size := HBW.out.lt
  generalize (w5.alloc (.cells #[.int .i64 (ver : Int), .slice As2 sl.length cs2, .slice Ad2 ddl.length cd2, .int .i64 wh] 25)) = w6 at *
  have k0 := HB2.out.cell 0
  have k1 := HB2.out.cell 1
  have k2 := HB2.out.cell 2
  have k3 := HB2.out.cell 3
  have j0 := HBW.out.cell 0
  have j1 := HBW.out.cell 1
  have j2 := HBW.out.cell 2
  have j3 := HBW.out.cell 3
  simp at k0 k1 k2 k3 j0 j1 j2 j3
  go_wp2_with (first
    | (go_at_call 10; refine (hdr_same _ [] [] (ver : Int) wh _ _ _ _ sl ddl RS.out RD.out RS2.out RD2.out).mono ?_; rintro e w7 ⟨rfl, ho7⟩; have HO7 := hide (HO6.out.trans ho7); have R3 := hide (R3.out.only ho7 (by simp)); have R4 := hide (R4.out.only ho7 (by simp)); have j3' := (HBW.out.only ho7 (by simp)).cell 3; simp at j3'; clear ho7)
    | (go_at_call_of 11 (Value.slice A3 (byts tl).length c3); refine (same_true _ _ tl [] [] _ R3.out (HR1.out _ HO7.out)).mono ?_; rintro e w' ⟨rfl, rfl⟩)
    | (go_at_call_of 11 (Value.slice A4 (byts dl).length c4); refine (same_true _ _ dl [] [] _ R4.out (HR2.out _ _ _ HO7.out (by first | exact fun _ => rfl | (intro h; exfalso; omega)) (by omega) (by have := HM.out; omega))).mono ?_; rintro e w' ⟨rfl, rfl⟩))
  all_goals
    go_ret
    exact ⟨rfl, HO7.out⟩

theorem u8_of {n : Int} (h : (Lit.int .u8 n).wf = true) : 0 ≤ n ∧ n ≤ 255 := by
  simp only [Lit.wf, Bool.and_eq_true, decide_eq_true_eq] at h
  have e1 : IntKind.u8.min = 0 := rfl
  have e2 : IntKind.u8.max = 255 := rfl
  omega
theorem bytes_law (zs : List Int) (hz : ∀ n ∈ zs, (Lit.int .u8 n).wf = true) : ∃ l : List UInt8, zs = byts l := byts_of zs fun n hn => u8_of (hz n hn)

theorem reads_law (v : Value) (zs : List Int) {w : World} (hv : Rd w [] v (ints .u8 zs)) (hz : ∀ n ∈ zs, (Lit.int .u8 n).wf = true) :
    Calls Try.prog 3 #[v] w fun e w' => e = .returned (.bool true) ∧ Only [] w w' := by
  obtain ⟨l, rfl⟩ := bytes_law zs hz
  rcases Nat.lt_or_ge 3000 l.length with h | h
  · exact reads_long w v l hv h
  · by_cases hb : (bndV l).2.2 = 0
    · exact reads_good w v l hv h hb
    · exact reads_bad w v l hv h hb

theorem own_packetReads : ownKnob Try.prog.godebug = none := by kernel_rfl
theorem laidOut_packetReads : laidOutB Try.prog = true := by kernel_rfl

set_option maxRecDepth 100000 in
theorem lifted_packetReads (os : Os) (started : os.Started) (H : Type) (enc : TypeId × Value → H) :
    ReturnsInHanded {} Try.checked os 3 .any (Rows.packetReadsSpec.pre6 enc Try.prog Try.f3 Rows.packetReadsRow.domain false) (Rows.packetReadsSpec.post enc Try.prog Try.f3 false true false false) := by
  refine returnsInHanded_of_change (C := Try.checked) own_packetReads started (by kernel_rfl) Try.func3
    (ChangeSpec.witness6 (enc := enc) (C := Try.checked) false ⟨#[], #[.slice none 0 0], []⟩ 8 (by kernel_rfl) (by kernel_rfl) (by kernel_rfl) (by kernel_rfl)) ?_
  intro W base args ds gs before hval0 hW hcnd _
  have hval : ∀ (j : Nat) t v, Try.f3.params[j]? = some t → args[j]? = some v → Value.okWide Try.prog W .any base t v := hval0
  have hW' := hW
  obtain ⟨p, q, hA0, hV, rfl, hfz, hnd⟩ := hW
  have hA : DataW.TrodAll enc Try.prog W 0 (fun _ => true) true Try.f3.params.toList args.toList ds p := hA0
  rw [Try.params3] at hA hval
  obtain ⟨v0, vs0, d0, ds0, p0, q0, hargs, rfl, rfl, h0, r0⟩ := trodAll_cons hA
  obtain ⟨rfl, rfl, rfl⟩ := trodAll_nil r0
  obtain rfl : args = #[v0] := by cases args; simp_all
  obtain ⟨rfl, rfl⟩ := trodVars_none hV
  obtain ⟨a0, len0, cap0, rfl⟩ := okWide_slice Try.underlying22 (hval 0 22 v0 rfl rfl)
  have k0 := h0
  have lt0 : ∀ x ∈ p0, x.block < W.heap.size := by obtain ⟨m, hm⟩ := k0; exact DataW.trod_lt m _ _ _ hm
  obtain ⟨z0, w0, f0⟩ := rd_of_trod (k := .u8) Try.underlying22 Try.underlying5 (by kernel_rfl) h0
  clear hA0 hval0
  refine (reads_law _ z0 w0 f0).mono fun e W' ⟨he, hon⟩ => ?_
  subst he
  have bel : Below W.heap.size W W' := hon.below (fun x hx => by cases hx) (Nat.le_refl _)
  exact ⟨_, rfl, _, _, _, [], _, [], hW', trodAll_mk1 (shut_bool Try.underlying4 _), (trodAll_cons_mk (Below.trod laidOut_packetReads (by kernel_rfl) (of_decide_eq_true (by kernel_rfl)) k0 bel lt0) trodAll_mk0), rfl, bel.frame _, fun h => by cases h⟩

theorem over_packetReads : Rows.packetReadsRow.holds Try.pinned (OpenSpec.ofChange Rows.packetReadsSpec) :=
  OpenClaim.holds_of_wide 3 Try.f3 rfl rfl rfl rfl rfl rfl rfl ⟨rfl, rfl, rfl, rfl, rfl⟩ rfl rfl rfl rfl rfl (by kernel_rfl) Try.func3 (by kernel_rfl)
    (of_decide_eq_true (by kernel_rfl)) (by unfold Func.isWrapper; first | (rw [if_pos (by decide +kernel)]; kernel_rfl) | (rw [if_neg (by decide +kernel)]; exact ⟨rfl, rfl⟩))
    (fun os started H enc _ => lifted_packetReads os started H enc)

theorem packetReads_proved : Rows.PacketReadsSaid := over_packetReads
#print axioms packetReads_proved
end Go.Proofs.Ytgplcojkhacniaa

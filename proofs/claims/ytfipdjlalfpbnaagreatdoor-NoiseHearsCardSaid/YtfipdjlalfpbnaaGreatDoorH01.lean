/-
  Walks and plain words (texts Tw+, La+, Nk0+, Nl2+, Laid, Nl0, Nlw0, No6, Nq0). No condition beyond those that each theorem states.
-/
import Derived.Test.YtfipdjlalfpbnaaGreatDoorChecked
import Derived.Test.YtfipdjlalfpbnaaGreatDoorRows
import Derived.Lib.LaidTab
import Derived.Deep.DeepLaidRun
import Derived.Stop.LaidErr
import Derived.LaidMore
import Derived.Test.YtfipdjlalfpbnaaGreatDoorP01
import Derived.Test.YtfipdjlalfpbnaaGreatDoorP14
import Derived.Test.YtfipdjlalfpbnaaGreatDoorP19
import Derived.Test.YtfipdjlalfpbnaaGreatDoorP25
import Derived.Test.YtfipdjlalfpbnaaGreatDoorP27
import Derived.Test.YtfipdjlalfpbnaaGreatDoorP29
import Derived.Test.YtfipdjlalfpbnaaGreatDoorP32
import Derived.Test.YtfipdjlalfpbnaaGreatDoorP35
import Derived.Test.YtfipdjlalfpbnaaGreatDoorP37
import Derived.Test.YtfipdjlalfpbnaaGreatDoorP39
namespace Go.Proofs.YtfipdjlalfpbnaaGreatDoor
section
open Go.RowKit Go.Deep

set_option maxRecDepth 100000 in
set_option maxHeartbeats 6400000 in
theorem OpenR_any (w : World) (t key v : ByteArray) (n : Nat) (hs : t.size ≤ 1000000) : Calls Tryz.prog 65 #[.string t, .string key, .int .u64 n, .string v] w (OpenPost (openT t key n v) w) := by
  have HP := hide (readR_any w t hs)
  cases hp : parseV t with
  | none =>
    rw [hp] at HP
    unfold ReadRPost nd0 at HP
    simp only at HP
    have HV := hide (show openT t key n v = (ByteArray.empty, 3) by unfold openT; rw [hp])
    clear hp
    go_enter Tryz.func65, Tryz.ntmps65
    go_wp2_with (go_at_call 39; refine HP.out.mono ?_; rintro e w1 ⟨rfl, ho⟩; have HO := hide ho; clear ho)
    go_ret2
    exact openpost HV.out (HO.out.alloc _)
  | some nd =>
    obtain ⟨k, m, bs, parts⟩ := nd
    have hm := (read_make hp).2.2.2.1
    by_cases hk : k = 10
    · obtain ⟨p0, p1, p2, rfl⟩ := three_of hk hm
      subst hk
      have HV := hide (open_is (key := key) (n := n) (v := v) hp)
      rw [hp] at HP
      unfold ReadRPost at HP
      simp only at HP
      clear hp hm
      unfold eqB at HV
      rcases Bool.eq_false_or_eq_true (p0.toList == key.toList) with e0 | e0
      all_goals
        rcases Bool.eq_false_or_eq_true (p2.toList == v.toList) with e2 | e2
        all_goals
          rcases Bool.eq_false_or_eq_true (decide (m = n)) with em | em
          all_goals
            rw [e0, e2, em] at HV
            simp only [Bool.and_true, Bool.and_false, if_true, if_false, Bool.false_eq_true] at HV
            have em2 : ((m : Int) != (n : Int)) = !decide (m = n) := by
              by_cases h : m = n
              · subst h; simp
              · rw [decide_eq_false h]; simp; omega
            rw [em] at em2
            simp only [Bool.not_true, Bool.not_false] at em2
            clear em
            go_enter Tryz.func65, Tryz.ntmps65
            go_wp2_with (go_at_call 39; refine HP.out.mono ?_; rintro e w1 ⟨bv, pv, rfl, ho, hb, hp⟩; obtain ⟨A, cap, rfl, _, _⟩ := (hb [] (by simp)).formb; obtain ⟨A2, cap2, rfl, _, _⟩ := (hp [] (by simp)).form; obtain ⟨g, o, rfl, _, hc⟩ := rd_strs ((hp [] (by simp)).only ((Only.refl [] _).alloc (.cells #[.int .i64 10, .int .u64 (m : Nat), .slice A bs.length cap, .slice A2 3 cap2] 77)) (by simp)) (by simp); have s0 := hc 0 (by simp); have s1 := hc 1 (by simp); have s2 := hc 2 (by simp); simp at s0 s1 s2; have HO := hide ho; clear ho hb hp hc; simp only [strs, List.map_cons, List.map_nil, List.length_cons, List.length_nil])
            go_ret2
            exact openpost HV.out (HO.out.alloc _)
    · have HV := hide (show openT t key n v = (ByteArray.empty, 3) by unfold openT; rw [hp]; simp only; rw [if_pos hk])
      rw [hp] at HP
      unfold ReadRPost at HP
      simp only at HP
      have hkb : (k != 10) = true := by rw [bne_iff_ne]; exact hk
      clear hp hk hm
      go_enter Tryz.func65, Tryz.ntmps65
      go_wp2_with (go_at_call 39; refine HP.out.mono ?_; rintro e w1 ⟨bv, pv, rfl, ho, hb, hp⟩; obtain ⟨A, cap, rfl, _, _⟩ := (hb [] (by simp)).formb; obtain ⟨A2, cap2, rfl, _, _⟩ := (hp [] (by simp)).form; have HO := hide ho; clear ho hb hp)
      go_ret2
      exact openpost HV.out (HO.out.alloc _)
end
section
open Go.RowKit Go.Deep

theorem what_val (s : ByteArray) : valT s = ((whatV s).2.1, numberedV (whatV s).1) := by
  unfold valT whatV
  cases h : parseV s with
  | none => rfl
  | some nd =>
    obtain ⟨k, n, b, l⟩ := nd
    have hm := (read_make h).2.2.2.2.2.1
    simp only [Option.getD_some]
    cases hn : numberedV k with
    | true => rfl
    | false => rw [hm hn]; rfl
end
section
open Go.RowKit Go.Deep

section
variable {a c d : Nat} {x y z : ByteArray}
end
theorem fit_is {s : ByteArray} (h : fitW s = true) : Tn s.size s := by
  unfold fitW at h
  rw [Bool.and_eq_true] at h
  exact ⟨h.2, Nat.le_refl _⟩
end
section
open Go.RowKit Go.Deep

set_option maxRecDepth 100000 in
set_option maxHeartbeats 12800000 in
theorem heard_fields : Tryz.prog.underlying 84 = some (.struct (Tryz.prog.fieldsOf 84)) := by kernel_rfl
theorem heard_same (n : Nat) (a : ByteArray) (m : Nat) (b : ByteArray) (c : ByteArray) (d : ByteArray) (W : World) : (binOp .eql 84 (.agg #[.int .u32 (n : Nat), .string a, .int .u64 (m : Nat), .string b, .string c, .string d]) (.agg #[.int .u32 (n : Nat), .string a, .int .u64 (m : Nat), .string b, .string c, .string d])).run Tryz.prog W = .ok (.bool true) W := by
  rw [run_eql_struct, run_equalIn_agg W 9999 _ _ _ heard_fields (by kernel_rfl)]
  simp [Program.fieldsOf, Tryz.underlying84, Op.eqFields, go_sem]
section
variable {s e r f q : ByteArray} {n sd tu : Nat} {ep cA hA uA kA cB ps sA hB uB kB cC nb sB hC ep2 uA2 uB2 la ke wi em ka kb : ByteArray}
end
end
section
open Go.RowKit Go.ChangeShapes Go.WideShapes Go.ChangeAt

theorem own_all : ownKnob Tryz.prog.godebug = none := by kernel_rfl
theorem laidOut_all : laidOutB Tryz.prog = true := by kernel_rfl
abbrev laidAll : List (String × DataW Unit) := [("math/bits.deBruijn32tab", Rows.laid_math_bits_deBruijn32tab), ("math/bits.deBruijn64tab", Rows.laid_math_bits_deBruijn64tab), ("internal/strconv.uint64pow10", Rows.laid_internal_strconv_uint64pow10)]

theorem tab_of_laid {W : World} (h : laidMetH Tryz.prog laidAll W) : Tab W := by
  rw [MakeChecks.laidMetH_plain _ _ _ (by kernel_rfl)] at h
  exact Lib.tabIs_of_head (g := 0) (t := 221) (e := 23) (n := 20) (rest := []) (by kernel_rfl) (by kernel_rfl) Tryz.underlying221 Tryz.underlying23 (by kernel_rfl) (by kernel_rfl) (laidMet.tail (laidMet.tail h))

theorem door_met (os : Os) (args : Array Value) : laidMetH Tryz.prog laidAll ((World.doorLaid Tryz.prog 400 os).forCall (fun _ _ => 0) ⟨#[], args, []⟩).memory := by
  rw [MakeChecks.laidMetH_plain _ _ _ (by kernel_rfl)]
  exact laidMet_of_run3 8 (by kernel_rfl) (by kernel_rfl) (by kernel_rfl)
end
section
open Go.RowKit Go.Deep

def bigB (l : List ByteArray) : Bool := l.any fun p => decide (200 < p.size)
theorem any_yes {l : List ByteArray} {f : ByteArray → Bool} {j : Nat} (hj : j < l.length) (h : f (l.getD j ByteArray.empty) = true) : l.any f = true := by
  rw [List.any_eq_true]
  refine ⟨l.getD j ByteArray.empty, ?_, h⟩
  rw [List.getD_eq_getElem?_getD, List.getElem?_eq_getElem hj]
  exact List.getElem_mem hj
theorem any_no {l : List ByteArray} {f : ByteArray → Bool} (h : ∀ j, j < l.length → f (l.getD j ByteArray.empty) = false) : l.any f = false := by
  rw [List.any_eq_false]
  intro p hp
  obtain ⟨j, hj, rfl⟩ := List.getElem_of_mem hp
  have := h j hj
  rw [List.getD_eq_getElem?_getD, List.getElem?_eq_getElem hj] at this
  rw [show f l[j] = false from this]
  decide
set_option maxRecDepth 100000 in
set_option maxHeartbeats 12800000 in
theorem big10_any (w : World) (v : Value) (l : List ByteArray) (hv : Rd w [] v (strs l)) (hsz : ∀ p ∈ l, p.size ≤ maxLen) : Calls Tryz.prog 37 #[v] w (RetB (bigB l) w) := by
  obtain ⟨A, cap, rfl, hc1, hc2⟩ := hv.form
  unfold maxLen at hc2
  rw [strs_length] at hv hc1 ⊢
  obtain ⟨n, hn⟩ : ∃ n, n = l.length := ⟨_, rfl⟩
  rw [← hn] at hv hc1 ⊢
  have HX := hide hv
  have HN := hide hn
  have HO := hide (Only.refl [] w)
  have HSZ := hide hsz
  clear hv hn hsz
  go_enter Tryz.func37, Tryz.ntmps37
  go_wp2_with fail
  go_loopw [3] (fun i wr => ∃ j : Nat, j ≤ n ∧ i = .int .i64 j ∧ Hid (∀ i, i < j → (fun p => decide (200 < p.size)) (l.getD i ByteArray.empty) = false) ∧ Hid (Only [] w wr)) (fun i _ => n - (intOf i).toNat)
  case atStart => exact ⟨0, Nat.zero_le _, rfl, hide (fun i h => absurd h (Nat.not_lt_zero i)), HO⟩
  case round =>
    clear HO
    obtain ⟨j, hj, rfl, HA, HO⟩ := hrel
    by_cases hlt : j < n
    · have hltI : (j : Int) < n := by omega
      have hjl : j < l.length := by rw [← HN.out]; exact hlt
      obtain ⟨g, o, rfl, _, hg, hcell⟩ := (HX.out.only HO.out (by simp)).at_.2.2.2 j _ (get_txt hjl)
      have hpz : (l.getD j ByteArray.empty).size ≤ maxLen := HSZ.out _ (by rw [List.getD_eq_getElem?_getD, List.getElem?_eq_getElem hjl]; exact List.getElem_mem hjl)
      unfold maxLen at hpz
      generalize hp : l.getD j ByteArray.empty = p at *
      by_cases he : 200 < p.size
      · have hei : (200 : Int) < (p.size : Nat) := by omega
        have HR := hide (show bigB l = true from any_yes hjl (by rw [hp]; exact decide_eq_true he))
        clear hp he hjl
        go_wp2_with fail
        go_ret
        exact retb HR.out HO.out
      · have hei : ¬ (200 : Int) < (p.size : Nat) := by omega
        have HZ := hide (show ∀ i, i < j + 1 → (fun p => decide (200 < p.size)) (l.getD i ByteArray.empty) = false from fun i hi => (Nat.lt_or_eq_of_le (Nat.le_of_lt_succ hi)).elim (HA.out i) (fun h => by rw [h, hp]; exact decide_eq_false he))
        clear hp he hjl
        go_wp2_with fail
        go_roundw
        case rel => exact ⟨j + 1, by omega, by go_num, HZ, HO⟩
        case measure => simp [intOf]; omega
    · have hge : ¬ (j : Int) < n := by omega
      have HR := hide (show bigB l = false from any_no (fun i hi => HA.out i (by have := HN.out; omega)))
      go_wp2_with fail
      go_ret
      exact retb HR.out HO.out
theorem big10_new1 (w : World) (G : Nat) (hG : G = w.heap.size) (x0 : ByteArray) (h0 : x0.size ≤ maxLen) : Calls Tryz.prog 37 #[.slice (some ⟨G, 0, none⟩) 1 1] (w.alloc (.cells #[.string x0] 9)) (RetB (bigB [x0]) w) := by
  subst hG
  exact (big10_any (w.alloc (.cells #[.string x0] 9)) _ [x0] (rd_new w 9 [] (strs [x0]) (by simp) (by unfold maxLen; show 1 ≤ _; omega)) (by intro p hp; simp at hp; rcases hp with rfl <;> assumption)).mono fun e w' h => ⟨h.1, ((Only.refl [] w).alloc _).trans h.2⟩
end
section
open Go.RowKit Go.Deep

theorem big_no {l : List ByteArray} (h : bigB l = false) : ∀ p ∈ l, p.size ≤ 200 := by
  intro p hp
  unfold bigB at h
  rw [List.any_eq_false] at h
  have := h p hp
  simp only [decide_eq_true_eq] at this
  omega
end
section
open Go.RowKit Go.Deep

theorem first_is : makeV 7 0 [] [⟨#[120, 55, 51, 54, 101, 54, 57, 54, 51, 54, 98, 54, 53, 55, 52]⟩] = ⟨#[104, 40, 120, 55, 51, 54, 101, 54, 57, 54, 51, 54, 98, 54, 53, 55, 52, 41]⟩ := by
  rw [made_of [] (by omega) (by omega) (by omega) (fun h => by cases h) (by show fitsV 7 1 = true; decide) (by intro p hp; simp at hp; subst hp; kernel_rfl) (by show 15 + 1 + 0 ≤ 65000; omega), sort_not6 (by omega)]
  kernel_rfl
set_option maxRecDepth 100000 in
set_option maxHeartbeats 12800000 in
theorem KdfR_any (w : World) (n : Nat) (hn : n < 18446744073709551616) (x y : ByteArray) (hx : x.size ≤ maxLen) (hy : y.size ≤ maxLen) : Calls Tryz.prog 102 #[.int .u64 n, .string x, .string y] w (MakePost (kdfT n x y) w) := by
  have HN := hide hn
  clear hn
  go_enter Tryz.func102, Tryz.ntmps102
  go_wp2_with (go_at_call 101; refine (makeR_new2 _ _ rfl 8 n HN.out x y hx hy).mono ?_; rintro e w2 ⟨rfl, ho⟩; have HO := hide ho; clear ho)
  go_ret
  exact makepost rfl HO.out
theorem KdfR1_any (w : World) (x y : ByteArray) (hx : x.size ≤ maxLen) (hy : y.size ≤ maxLen) : Calls Tryz.prog 102 #[.int .u64 1, .string x, .string y] w (MakePost (kdfT 1 x y) w) := KdfR_any w 1 (by omega) x y hx hy
theorem KdfR2_any (w : World) (x y : ByteArray) (hx : x.size ≤ maxLen) (hy : y.size ≤ maxLen) : Calls Tryz.prog 102 #[.int .u64 2, .string x, .string y] w (MakePost (kdfT 2 x y) w) := KdfR_any w 2 (by omega) x y hx hy
set_option maxRecDepth 100000 in
set_option maxHeartbeats 12800000 in
theorem hashR_any (w : World) (x y : ByteArray) (hx : x.size ≤ maxLen) (hy : y.size ≤ maxLen) : Calls Tryz.prog 103 #[.string x, .string y] w (MakePost (hashT x y) w) := by
  go_enter Tryz.func103, Tryz.ntmps103
  go_wp2_with (go_at_call 59; refine (hashR_new2 _ _ rfl x y hx hy).mono ?_; rintro e w2 ⟨rfl, ho⟩; have HO := hide ho; clear ho)
  go_ret
  exact makepost rfl HO.out
theorem hashR_new1 (w : World) (G : Nat) (hG : G = w.heap.size) (x : ByteArray) (hx : x.size ≤ maxLen) :
    Calls Tryz.prog 59 #[.slice (some ⟨G, 0, none⟩) 1 1] (w.alloc (.cells #[.string x] 9)) (MakePost (makeV 7 0 [] [x]) w) := by
  subst hG
  exact (HashR_any (w.alloc (.cells #[.string x] 9)) _ [x] (by simp) (fun p hp => by simp at hp; subst hp; exact hx) (rd_new w 9 [] (strs [x]) (by simp) (by unfold maxLen; show 1 ≤ _; omega))).mono fun e w' h => ⟨h.1, ((Only.refl [] w).alloc _).trans h.2⟩
set_option maxRecDepth 100000 in
set_option maxHeartbeats 12800000 in
theorem FirstR_any (w : World) (p eph : ByteArray) (hp : p.size ≤ maxLen) (he : eph.size ≤ maxLen) : Calls Tryz.prog 98 #[.string p, .string eph] w (StatePost (begC eph) (begH p eph) w) := by
  have HB := hide (Blk.new w 80 #[.string ⟨#[]⟩, .string ⟨#[]⟩])
  have HO := hide ((Only.refl [] w).alloc (.cells #[.string ⟨#[]⟩, .string ⟨#[]⟩] 80))
  have K0 := hide (fun W G hG => hashR_new1 W G hG ⟨#[120, 55, 51, 54, 101, 54, 57, 54, 51, 54, 98, 54, 53, 55, 52]⟩ (by unfold maxLen; show 15 ≤ _; omega))
  have K1 := hide (fun W => KdfR1_any W ⟨#[104, 40, 120, 55, 51, 54, 101, 54, 57, 54, 51, 54, 98, 54, 53, 55, 52, 41]⟩ eph first_size he)
  have K2 := hide (fun W => hashR_any W ⟨#[104, 40, 120, 55, 51, 54, 101, 54, 57, 54, 51, 54, 98, 54, 53, 55, 52, 41]⟩ p first_size hp)
  have K3 := hide (fun W => hashR_any W (hashT ⟨#[104, 40, 120, 55, 51, 54, 101, 54, 57, 54, 51, 54, 98, 54, 53, 55, 52, 41]⟩ p) eph (hashT_size _ _) he)
  rw [first_is] at K0
  unfold MakePost at K0 K1 K2 K3
  clear hp he
  go_enter Tryz.func98, Tryz.ntmps98
  go_upto_region 1 with fail
  generalize (w.alloc (.cells #[.string ⟨#[]⟩, .string ⟨#[]⟩] 80)) = v0 at *
  have b0 := HB.out.cell 0; have b1 := HB.out.cell 1; simp at b0 b1; have bf := HB.out.frozen
  go_wp2_with (first
    | (go_at_call 59; (with_reducible refine (K0.out _ _ rfl).mono ?_); rintro e w1 ⟨rfl, ho⟩; replace HB := hon HB ho; replace HO := htr HO ho; clear ho; (first | (clear b0 b1 bf) | skip); have b0 := HB.out.cell 0; have b1 := HB.out.cell 1; simp at b0 b1; have bf := HB.out.frozen)
    | (go_at_call 102; (with_reducible refine (K1.out _).mono ?_); rintro e w2 ⟨rfl, ho⟩; replace HB := hon HB ho; replace HO := htr HO ho; clear ho; (first | (clear b0 b1 bf) | skip); have b0 := HB.out.cell 0; have b1 := HB.out.cell 1; simp at b0 b1; have bf := HB.out.frozen)
    | (go_at_call 103; (with_reducible refine (K2.out _).mono ?_); rintro e w3 ⟨rfl, ho⟩; replace HB := hon HB ho; replace HO := htr HO ho; clear ho; (first | (clear b0 b1 bf) | skip); have b0 := HB.out.cell 0; have b1 := HB.out.cell 1; simp at b0 b1; have bf := HB.out.frozen)
    | (go_at_call 103; (with_reducible refine (K3.out _).mono ?_); rintro e w4 ⟨rfl, ho⟩; replace HB := hon HB ho; replace HO := htr HO ho; clear ho; (first | (clear b0 b1 bf) | skip); have b0 := HB.out.cell 0; have b1 := HB.out.cell 1; simp at b0 b1; have bf := HB.out.frozen))
  refine bodyPost_ret (results_cell_row rfl _ _ w.heap.size 80 _ (0, 0) _ rfl ((HB.out.set_ 0 _).set_ 1 _) Tryz.underlying80 rfl (by kernel_rfl)) rfl ?_
  exact ⟨rfl, (HO.out.setCell (.inr (Nat.le_refl _)) _).setCell (.inr (Nat.le_refl _)) _⟩
end
section
open Go.RowKit Go.Deep

theorem readR_cells (w : World) (s : ByteArray) (hs : s.size ≤ maxLen) : Calls Tryz.prog 39 #[.string s] w fun e w' => ∃ A1 n1 c1 A2 n2 c2, e = .returned (.agg #[.int .i64 (whatV s).1, .int .u64 ((whatV s).2.1 : Nat), .slice A1 n1 c1, .slice A2 n2 c2]) ∧ Only [] w w' :=
  (readR_what w s hs).mono fun e w' h => by
    obtain ⟨bv, pv, h1, h2, h3, h4⟩ := h
    obtain ⟨A, cap, rfl, _, _⟩ := h3.formb
    obtain ⟨A2, cap2, rfl, _, _⟩ := h4.form
    exact ⟨A, _, cap, A2, _, cap2, h1, h2⟩
theorem node_field (k : Int) : ∀ (n : Int) (A1 A2 : Option Addr) (n1 c1 n2 c2 : Nat) (W : World), (Instr.field 77 (.agg #[.int .i64 k, .int .u64 n, .slice A1 n1 c1, .slice A2 n2 c2]) 0).run Tryz.prog W = .ok (.int .i64 k) W := fun n A1 A2 n1 c1 n2 c2 W => by kernel_rfl
set_option maxRecDepth 100000 in
set_option maxHeartbeats 12800000 in
theorem HearR_f1 (w : World) (sc : ByteArray) (k : Int) (sn r cc : Nat) (x4 x5 x6 x7 x8 x9 x10 x11 x12 : ByteArray) (hsc : sc.size ≤ maxLen) (hF : (Mg.mk k sn r cc x4 x5 x6 x7 x8 x9 x10 x11 x12).Fine) (hb : (parseV sc).isSome = false) : Calls Tryz.prog 43 #[.string sc, .agg #[.int .i64 k, .int .u32 (sn : Nat), .int .u32 (r : Nat), .int .u64 (cc : Nat), .string x4, .string x5, .string x6, .string x7, .string x8, .string x9, .string x10, .string x11, .string x12]] w (HeaPost 3 #[.string ⟨#[]⟩, .int .u64 0, .string ⟨#[]⟩, .string ⟨#[]⟩] w) := by
  have KI := hide (fun W => isR_all W sc hsc)
  have KRT := hide (show ∀ W, Calls Tryz.prog 49 #[.agg #[.int .i64 k, .int .u32 (sn : Nat), .int .u32 (r : Nat), .int .u64 (cc : Nat), .string x4, .string x5, .string x6, .string x7, .string x8, .string x9, .string x10, .string x11, .string x12]] W (RetB (rightM (Mg.mk k sn r cc x4 x5 x6 x7 x8 x9 x10 x11 x12)) W) from fun W => RightR_any W (Mg.mk k sn r cc x4 x5 x6 x7 x8 x9 x10 x11 x12) hF)
  have KRD := hide (fun W => readR_cells W x4 hF.x4)
  unfold RetB at KI KRT
  have hfd := node_field (whatV x4).1
  have HMB := hide ((Blk.new w 25 #[.int .i64 k, .int .u32 (sn : Nat), .int .u32 (r : Nat), .int .u64 (cc : Nat), .string x4, .string x5, .string x6, .string x7, .string x8, .string x9, .string x10, .string x11, .string x12]).alloc (.cells #[.string ⟨#[]⟩, .int .u64 0, .string ⟨#[]⟩, .string ⟨#[]⟩] 90))
  have HR := hide (Blk.new (w.alloc (.cells #[.int .i64 k, .int .u32 (sn : Nat), .int .u32 (r : Nat), .int .u64 (cc : Nat), .string x4, .string x5, .string x6, .string x7, .string x8, .string x9, .string x10, .string x11, .string x12] 25)) 90 #[.string ⟨#[]⟩, .int .u64 0, .string ⟨#[]⟩, .string ⟨#[]⟩])
  rw [World.size_alloc] at HR
  have HO := hide (((Only.refl [] w).alloc (.cells #[.int .i64 k, .int .u32 (sn : Nat), .int .u32 (r : Nat), .int .u64 (cc : Nat), .string x4, .string x5, .string x6, .string x7, .string x8, .string x9, .string x10, .string x11, .string x12] 25)).alloc (.cells #[.string ⟨#[]⟩, .int .u64 0, .string ⟨#[]⟩, .string ⟨#[]⟩] 90))
  rw [hb] at KI
  clear hb KRT KRD hfd
  clear hsc hF
  go_enter Tryz.func43, Tryz.ntmps43
  go_upto_region 1 with fail
  generalize ((w.alloc (.cells #[.int .i64 k, .int .u32 (sn : Nat), .int .u32 (r : Nat), .int .u64 (cc : Nat), .string x4, .string x5, .string x6, .string x7, .string x8, .string x9, .string x10, .string x11, .string x12] 25)).alloc (.cells #[.string ⟨#[]⟩, .int .u64 0, .string ⟨#[]⟩, .string ⟨#[]⟩] 90)) = v0 at *
  obtain ⟨m0, m1, m2, m3, m4, m5, m6, m7, m8, m9, m10, m11, m12⟩ := cells13 HMB.out; obtain ⟨y0, y1, y2, y3⟩ := cells4 HR.out; have yf := HR.out.frozen
  go_wp2_with (first
    | (go_at_call 18; (with_reducible refine (KI.out _).mono ?_); rintro e2 wi ⟨rfl, ho⟩; replace HMB := hon HMB ho; replace HR := hon HR ho; replace HO := htr HO ho; clear ho; (first | (clear m0 m1 m2 m3 m4 m5 m6 m7 m8 m9 m10 m11 m12; clear y0 y1 y2 y3 yf) | skip); obtain ⟨m0, m1, m2, m3, m4, m5, m6, m7, m8, m9, m10, m11, m12⟩ := cells13 HMB.out; obtain ⟨y0, y1, y2, y3⟩ := cells4 HR.out; have yf := HR.out.frozen))
  refine bodyPost_ret (results_cell_two rfl _ _ (w.heap.size + 1) 90 _ (0, 0) _ rfl (set4 HR.out (.string ⟨#[]⟩) (.int .u64 0) (.string ⟨#[]⟩) (.string ⟨#[]⟩)) Tryz.underlying90 rfl (by kernel_rfl)) rfl ?_
  exact ⟨rfl, only4 HO.out (.inr (by omega)) (.string ⟨#[]⟩) (.int .u64 0) (.string ⟨#[]⟩) (.string ⟨#[]⟩)⟩
set_option maxRecDepth 100000 in
set_option maxHeartbeats 12800000 in
theorem HearR_f2 (w : World) (sc : ByteArray) (k : Int) (sn r cc : Nat) (x4 x5 x6 x7 x8 x9 x10 x11 x12 : ByteArray) (hsc : sc.size ≤ maxLen) (hF : (Mg.mk k sn r cc x4 x5 x6 x7 x8 x9 x10 x11 x12).Fine) (hb : (parseV sc).isSome = true) (hr : rightM (Mg.mk k sn r cc x4 x5 x6 x7 x8 x9 x10 x11 x12) = false) : Calls Tryz.prog 43 #[.string sc, .agg #[.int .i64 k, .int .u32 (sn : Nat), .int .u32 (r : Nat), .int .u64 (cc : Nat), .string x4, .string x5, .string x6, .string x7, .string x8, .string x9, .string x10, .string x11, .string x12]] w (HeaPost 3 #[.string ⟨#[]⟩, .int .u64 0, .string ⟨#[]⟩, .string ⟨#[]⟩] w) := by
  have KI := hide (fun W => isR_all W sc hsc)
  have KRT := hide (show ∀ W, Calls Tryz.prog 49 #[.agg #[.int .i64 k, .int .u32 (sn : Nat), .int .u32 (r : Nat), .int .u64 (cc : Nat), .string x4, .string x5, .string x6, .string x7, .string x8, .string x9, .string x10, .string x11, .string x12]] W (RetB (rightM (Mg.mk k sn r cc x4 x5 x6 x7 x8 x9 x10 x11 x12)) W) from fun W => RightR_any W (Mg.mk k sn r cc x4 x5 x6 x7 x8 x9 x10 x11 x12) hF)
  have KRD := hide (fun W => readR_cells W x4 hF.x4)
  unfold RetB at KI KRT
  have hfd := node_field (whatV x4).1
  have HMB := hide ((Blk.new w 25 #[.int .i64 k, .int .u32 (sn : Nat), .int .u32 (r : Nat), .int .u64 (cc : Nat), .string x4, .string x5, .string x6, .string x7, .string x8, .string x9, .string x10, .string x11, .string x12]).alloc (.cells #[.string ⟨#[]⟩, .int .u64 0, .string ⟨#[]⟩, .string ⟨#[]⟩] 90))
  have HR := hide (Blk.new (w.alloc (.cells #[.int .i64 k, .int .u32 (sn : Nat), .int .u32 (r : Nat), .int .u64 (cc : Nat), .string x4, .string x5, .string x6, .string x7, .string x8, .string x9, .string x10, .string x11, .string x12] 25)) 90 #[.string ⟨#[]⟩, .int .u64 0, .string ⟨#[]⟩, .string ⟨#[]⟩])
  rw [World.size_alloc] at HR
  have HO := hide (((Only.refl [] w).alloc (.cells #[.int .i64 k, .int .u32 (sn : Nat), .int .u32 (r : Nat), .int .u64 (cc : Nat), .string x4, .string x5, .string x6, .string x7, .string x8, .string x9, .string x10, .string x11, .string x12] 25)).alloc (.cells #[.string ⟨#[]⟩, .int .u64 0, .string ⟨#[]⟩, .string ⟨#[]⟩] 90))
  rw [hb] at KI
  rw [hr] at KRT
  clear hb hr KRD hfd
  clear hsc hF
  go_enter Tryz.func43, Tryz.ntmps43
  go_upto_region 1 with fail
  generalize ((w.alloc (.cells #[.int .i64 k, .int .u32 (sn : Nat), .int .u32 (r : Nat), .int .u64 (cc : Nat), .string x4, .string x5, .string x6, .string x7, .string x8, .string x9, .string x10, .string x11, .string x12] 25)).alloc (.cells #[.string ⟨#[]⟩, .int .u64 0, .string ⟨#[]⟩, .string ⟨#[]⟩] 90)) = v0 at *
  obtain ⟨m0, m1, m2, m3, m4, m5, m6, m7, m8, m9, m10, m11, m12⟩ := cells13 HMB.out; obtain ⟨y0, y1, y2, y3⟩ := cells4 HR.out; have yf := HR.out.frozen
  go_wp2_with (first
    | (go_at_call 18; (with_reducible refine (KI.out _).mono ?_); rintro e2 wi ⟨rfl, ho⟩; replace HMB := hon HMB ho; replace HR := hon HR ho; replace HO := htr HO ho; clear ho; (first | (clear m0 m1 m2 m3 m4 m5 m6 m7 m8 m9 m10 m11 m12; clear y0 y1 y2 y3 yf) | skip); obtain ⟨m0, m1, m2, m3, m4, m5, m6, m7, m8, m9, m10, m11, m12⟩ := cells13 HMB.out; obtain ⟨y0, y1, y2, y3⟩ := cells4 HR.out; have yf := HR.out.frozen)
    | (go_at_call 49; (with_reducible refine (KRT.out _).mono ?_); rintro e2 wr ⟨rfl, ho⟩; replace HMB := hon HMB ho; replace HR := hon HR ho; replace HO := htr HO ho; clear ho; (first | (clear m0 m1 m2 m3 m4 m5 m6 m7 m8 m9 m10 m11 m12; clear y0 y1 y2 y3 yf) | skip); obtain ⟨m0, m1, m2, m3, m4, m5, m6, m7, m8, m9, m10, m11, m12⟩ := cells13 HMB.out; obtain ⟨y0, y1, y2, y3⟩ := cells4 HR.out; have yf := HR.out.frozen))
  refine bodyPost_ret (results_cell_two rfl _ _ (w.heap.size + 1) 90 _ (0, 0) _ rfl (set4 HR.out (.string ⟨#[]⟩) (.int .u64 0) (.string ⟨#[]⟩) (.string ⟨#[]⟩)) Tryz.underlying90 rfl (by kernel_rfl)) rfl ?_
  exact ⟨rfl, only4 HO.out (.inr (by omega)) (.string ⟨#[]⟩) (.int .u64 0) (.string ⟨#[]⟩) (.string ⟨#[]⟩)⟩
set_option maxRecDepth 100000 in
set_option maxHeartbeats 12800000 in
theorem HearR_f3 (w : World) (sc : ByteArray) (k : Int) (sn r cc : Nat) (x4 x5 x6 x7 x8 x9 x10 x11 x12 : ByteArray) (hsc : sc.size ≤ maxLen) (hF : (Mg.mk k sn r cc x4 x5 x6 x7 x8 x9 x10 x11 x12).Fine) (hb : (parseV sc).isSome = true) (hr : rightM (Mg.mk k sn r cc x4 x5 x6 x7 x8 x9 x10 x11 x12) = true) (hk : k ≠ 1) : Calls Tryz.prog 43 #[.string sc, .agg #[.int .i64 k, .int .u32 (sn : Nat), .int .u32 (r : Nat), .int .u64 (cc : Nat), .string x4, .string x5, .string x6, .string x7, .string x8, .string x9, .string x10, .string x11, .string x12]] w (HeaPost 3 #[.string ⟨#[]⟩, .int .u64 0, .string ⟨#[]⟩, .string ⟨#[]⟩] w) := by
  have KI := hide (fun W => isR_all W sc hsc)
  have KRT := hide (show ∀ W, Calls Tryz.prog 49 #[.agg #[.int .i64 k, .int .u32 (sn : Nat), .int .u32 (r : Nat), .int .u64 (cc : Nat), .string x4, .string x5, .string x6, .string x7, .string x8, .string x9, .string x10, .string x11, .string x12]] W (RetB (rightM (Mg.mk k sn r cc x4 x5 x6 x7 x8 x9 x10 x11 x12)) W) from fun W => RightR_any W (Mg.mk k sn r cc x4 x5 x6 x7 x8 x9 x10 x11 x12) hF)
  have KRD := hide (fun W => readR_cells W x4 hF.x4)
  unfold RetB at KI KRT
  have hfd := node_field (whatV x4).1
  have HMB := hide ((Blk.new w 25 #[.int .i64 k, .int .u32 (sn : Nat), .int .u32 (r : Nat), .int .u64 (cc : Nat), .string x4, .string x5, .string x6, .string x7, .string x8, .string x9, .string x10, .string x11, .string x12]).alloc (.cells #[.string ⟨#[]⟩, .int .u64 0, .string ⟨#[]⟩, .string ⟨#[]⟩] 90))
  have HR := hide (Blk.new (w.alloc (.cells #[.int .i64 k, .int .u32 (sn : Nat), .int .u32 (r : Nat), .int .u64 (cc : Nat), .string x4, .string x5, .string x6, .string x7, .string x8, .string x9, .string x10, .string x11, .string x12] 25)) 90 #[.string ⟨#[]⟩, .int .u64 0, .string ⟨#[]⟩, .string ⟨#[]⟩])
  rw [World.size_alloc] at HR
  have HO := hide (((Only.refl [] w).alloc (.cells #[.int .i64 k, .int .u32 (sn : Nat), .int .u32 (r : Nat), .int .u64 (cc : Nat), .string x4, .string x5, .string x6, .string x7, .string x8, .string x9, .string x10, .string x11, .string x12] 25)).alloc (.cells #[.string ⟨#[]⟩, .int .u64 0, .string ⟨#[]⟩, .string ⟨#[]⟩] 90))
  rw [hb] at KI
  rw [hr] at KRT
  have hkb : (k != 1) = true := by rw [bne_iff_ne]; exact hk
  clear hb hr hk KRD hfd
  clear hsc hF
  go_enter Tryz.func43, Tryz.ntmps43
  go_upto_region 1 with fail
  generalize ((w.alloc (.cells #[.int .i64 k, .int .u32 (sn : Nat), .int .u32 (r : Nat), .int .u64 (cc : Nat), .string x4, .string x5, .string x6, .string x7, .string x8, .string x9, .string x10, .string x11, .string x12] 25)).alloc (.cells #[.string ⟨#[]⟩, .int .u64 0, .string ⟨#[]⟩, .string ⟨#[]⟩] 90)) = v0 at *
  obtain ⟨m0, m1, m2, m3, m4, m5, m6, m7, m8, m9, m10, m11, m12⟩ := cells13 HMB.out; obtain ⟨y0, y1, y2, y3⟩ := cells4 HR.out; have yf := HR.out.frozen
  go_wp2_with (first
    | (go_at_call 18; (with_reducible refine (KI.out _).mono ?_); rintro e2 wi ⟨rfl, ho⟩; replace HMB := hon HMB ho; replace HR := hon HR ho; replace HO := htr HO ho; clear ho; (first | (clear m0 m1 m2 m3 m4 m5 m6 m7 m8 m9 m10 m11 m12; clear y0 y1 y2 y3 yf) | skip); obtain ⟨m0, m1, m2, m3, m4, m5, m6, m7, m8, m9, m10, m11, m12⟩ := cells13 HMB.out; obtain ⟨y0, y1, y2, y3⟩ := cells4 HR.out; have yf := HR.out.frozen)
    | (go_at_call 49; (with_reducible refine (KRT.out _).mono ?_); rintro e2 wr ⟨rfl, ho⟩; replace HMB := hon HMB ho; replace HR := hon HR ho; replace HO := htr HO ho; clear ho; (first | (clear m0 m1 m2 m3 m4 m5 m6 m7 m8 m9 m10 m11 m12; clear y0 y1 y2 y3 yf) | skip); obtain ⟨m0, m1, m2, m3, m4, m5, m6, m7, m8, m9, m10, m11, m12⟩ := cells13 HMB.out; obtain ⟨y0, y1, y2, y3⟩ := cells4 HR.out; have yf := HR.out.frozen))
  refine bodyPost_ret (results_cell_two rfl _ _ (w.heap.size + 1) 90 _ (0, 0) _ rfl (set4 HR.out (.string ⟨#[]⟩) (.int .u64 0) (.string ⟨#[]⟩) (.string ⟨#[]⟩)) Tryz.underlying90 rfl (by kernel_rfl)) rfl ?_
  exact ⟨rfl, only4 HO.out (.inr (by omega)) (.string ⟨#[]⟩) (.int .u64 0) (.string ⟨#[]⟩) (.string ⟨#[]⟩)⟩
set_option maxRecDepth 100000 in
set_option maxHeartbeats 12800000 in
theorem HearR_f4 (w : World) (sc : ByteArray) (k : Int) (sn r cc : Nat) (x4 x5 x6 x7 x8 x9 x10 x11 x12 : ByteArray) (hsc : sc.size ≤ maxLen) (hF : (Mg.mk k sn r cc x4 x5 x6 x7 x8 x9 x10 x11 x12).Fine) (hb : (parseV sc).isSome = true) (hr : rightM (Mg.mk k sn r cc x4 x5 x6 x7 x8 x9 x10 x11 x12) = true) (hk : k = 1) (hp4 : (whatV x4).1 ≠ 5) : Calls Tryz.prog 43 #[.string sc, .agg #[.int .i64 k, .int .u32 (sn : Nat), .int .u32 (r : Nat), .int .u64 (cc : Nat), .string x4, .string x5, .string x6, .string x7, .string x8, .string x9, .string x10, .string x11, .string x12]] w (HeaPost 3 #[.string ⟨#[]⟩, .int .u64 0, .string ⟨#[]⟩, .string ⟨#[]⟩] w) := by
  have KI := hide (fun W => isR_all W sc hsc)
  have KRT := hide (show ∀ W, Calls Tryz.prog 49 #[.agg #[.int .i64 k, .int .u32 (sn : Nat), .int .u32 (r : Nat), .int .u64 (cc : Nat), .string x4, .string x5, .string x6, .string x7, .string x8, .string x9, .string x10, .string x11, .string x12]] W (RetB (rightM (Mg.mk k sn r cc x4 x5 x6 x7 x8 x9 x10 x11 x12)) W) from fun W => RightR_any W (Mg.mk k sn r cc x4 x5 x6 x7 x8 x9 x10 x11 x12) hF)
  have KRD := hide (fun W => readR_cells W x4 hF.x4)
  unfold RetB at KI KRT
  have hfd := node_field (whatV x4).1
  have HMB := hide ((Blk.new w 25 #[.int .i64 k, .int .u32 (sn : Nat), .int .u32 (r : Nat), .int .u64 (cc : Nat), .string x4, .string x5, .string x6, .string x7, .string x8, .string x9, .string x10, .string x11, .string x12]).alloc (.cells #[.string ⟨#[]⟩, .int .u64 0, .string ⟨#[]⟩, .string ⟨#[]⟩] 90))
  have HR := hide (Blk.new (w.alloc (.cells #[.int .i64 k, .int .u32 (sn : Nat), .int .u32 (r : Nat), .int .u64 (cc : Nat), .string x4, .string x5, .string x6, .string x7, .string x8, .string x9, .string x10, .string x11, .string x12] 25)) 90 #[.string ⟨#[]⟩, .int .u64 0, .string ⟨#[]⟩, .string ⟨#[]⟩])
  rw [World.size_alloc] at HR
  have HO := hide (((Only.refl [] w).alloc (.cells #[.int .i64 k, .int .u32 (sn : Nat), .int .u32 (r : Nat), .int .u64 (cc : Nat), .string x4, .string x5, .string x6, .string x7, .string x8, .string x9, .string x10, .string x11, .string x12] 25)).alloc (.cells #[.string ⟨#[]⟩, .int .u64 0, .string ⟨#[]⟩, .string ⟨#[]⟩] 90))
  rw [hb] at KI
  rw [hr] at KRT
  have hkb : (k != 1) = false := by rw [bne_eq_false_iff_eq]; exact hk
  have hpb : ((whatV x4).1 != 5) = true := by rw [bne_iff_ne]; exact hp4
  generalize (whatV x4).1 = kq at *
  clear hb hr hk hp4
  clear hsc hF
  go_enter Tryz.func43, Tryz.ntmps43
  go_upto_region 1 with fail
  generalize ((w.alloc (.cells #[.int .i64 k, .int .u32 (sn : Nat), .int .u32 (r : Nat), .int .u64 (cc : Nat), .string x4, .string x5, .string x6, .string x7, .string x8, .string x9, .string x10, .string x11, .string x12] 25)).alloc (.cells #[.string ⟨#[]⟩, .int .u64 0, .string ⟨#[]⟩, .string ⟨#[]⟩] 90)) = v0 at *
  obtain ⟨m0, m1, m2, m3, m4, m5, m6, m7, m8, m9, m10, m11, m12⟩ := cells13 HMB.out; obtain ⟨y0, y1, y2, y3⟩ := cells4 HR.out; have yf := HR.out.frozen
  go_wp2_with (first
    | (go_at_call 18; (with_reducible refine (KI.out _).mono ?_); rintro e2 wi ⟨rfl, ho⟩; replace HMB := hon HMB ho; replace HR := hon HR ho; replace HO := htr HO ho; clear ho; (first | (clear m0 m1 m2 m3 m4 m5 m6 m7 m8 m9 m10 m11 m12; clear y0 y1 y2 y3 yf) | skip); obtain ⟨m0, m1, m2, m3, m4, m5, m6, m7, m8, m9, m10, m11, m12⟩ := cells13 HMB.out; obtain ⟨y0, y1, y2, y3⟩ := cells4 HR.out; have yf := HR.out.frozen)
    | (go_at_call 49; (with_reducible refine (KRT.out _).mono ?_); rintro e2 wr ⟨rfl, ho⟩; replace HMB := hon HMB ho; replace HR := hon HR ho; replace HO := htr HO ho; clear ho; (first | (clear m0 m1 m2 m3 m4 m5 m6 m7 m8 m9 m10 m11 m12; clear y0 y1 y2 y3 yf) | skip); obtain ⟨m0, m1, m2, m3, m4, m5, m6, m7, m8, m9, m10, m11, m12⟩ := cells13 HMB.out; obtain ⟨y0, y1, y2, y3⟩ := cells4 HR.out; have yf := HR.out.frozen)
    | (go_at_call 39; (with_reducible refine (KRD.out _).mono ?_); rintro e2 wp ⟨A1, n1, c1, A2, n2, c2, rfl, ho⟩; replace HMB := hon HMB ho; replace HR := hon HR ho; replace HO := htr HO ho; clear ho; (first | (clear m0 m1 m2 m3 m4 m5 m6 m7 m8 m9 m10 m11 m12; clear y0 y1 y2 y3 yf) | skip); obtain ⟨m0, m1, m2, m3, m4, m5, m6, m7, m8, m9, m10, m11, m12⟩ := cells13 HMB.out; obtain ⟨y0, y1, y2, y3⟩ := cells4 HR.out; have yf := HR.out.frozen))
  refine bodyPost_ret (results_cell_two rfl _ _ (w.heap.size + 1) 90 _ (0, 0) _ rfl (set4 HR.out (.string ⟨#[]⟩) (.int .u64 0) (.string ⟨#[]⟩) (.string ⟨#[]⟩)) Tryz.underlying90 rfl (by kernel_rfl)) rfl ?_
  exact ⟨rfl, only4 HO.out (.inr (by omega)) (.string ⟨#[]⟩) (.int .u64 0) (.string ⟨#[]⟩) (.string ⟨#[]⟩)⟩
end
end Go.Proofs.YtfipdjlalfpbnaaGreatDoor

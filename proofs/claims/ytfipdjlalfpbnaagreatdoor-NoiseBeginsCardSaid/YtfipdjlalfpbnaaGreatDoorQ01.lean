/-
  Walks and plain words (texts Gq+, Ws0+, Nk0+, Nk1+, Nl2+, Laid, Nl0, No6). No condition beyond those that each theorem states.
-/
import Derived.Test.YtfipdjlalfpbnaaGreatDoorRows
import Derived.Lib.LaidTab
import Derived.Deep.DeepLaidRun
import Derived.Stop.LaidErr
import Derived.LaidMore
import Derived.Test.YtfipdjlalfpbnaaGreatDoorP13
import Derived.Test.YtfipdjlalfpbnaaGreatDoorP14
import Derived.Test.YtfipdjlalfpbnaaGreatDoorP25
import Derived.Test.YtfipdjlalfpbnaaGreatDoorP27
import Derived.Test.YtfipdjlalfpbnaaGreatDoorP29
import Derived.Test.YtfipdjlalfpbnaaGreatDoorP32
import Derived.Test.YtfipdjlalfpbnaaGreatDoorP35
import Derived.Test.YtfipdjlalfpbnaaGreatDoorP37
import Derived.Test.YtfipdjlalfpbnaaGreatDoorP39
namespace Go.Proofs.YtfipdjlalfpbnaaGreatDoor
section
open Go.RowKit Go.Deep

theorem sort_inj {x y z : ByteArray} (h : sortV 6 [x, z] = sortV 6 [x, y]) : z = y := by
  have hx := sort_mem 6 [x, z]
  have hy := sort_mem 6 [x, y]
  rw [h] at hx
  have h1 : z ∈ [x, y] := (hy z).1 ((hx z).2 (by simp))
  have h2 : y ∈ [x, z] := (hx y).1 ((hy y).2 (by simp))
  simp at h1 h2
  rcases h1 with h1 | h1
  · rcases h2 with h2 | h2
    · rw [h1, h2]
    · exact h2.symm
  · exact h1
end
section
open Go.RowKit Go.Deep

set_option maxRecDepth 100000 in
set_option maxHeartbeats 12800000 in
theorem NumberR_any (w : World) (n : Nat) (hn : n < 18446744073709551616) : Calls Tryz.prog 67 #[.int .u64 n] w (MakePost (numT n) w) := by
  have HM := hide (fun W => MakeR_any 3 n hn (.slice none 0 0) (.slice none 0 0) [] (by simp) [] (by simp) (by simp) W (Rd.nil _ _) (Rd.nil _ _))
  unfold MakePost at HM
  clear hn
  go_enter Tryz.func67, Tryz.ntmps67
  go_wp2_with (go_at_call 101; refine (HM.out _).mono ?_; rintro e w2 ⟨rfl, ho⟩; have HO := hide ho; clear ho)
  go_ret
  exact makepost rfl HO.out
end
section
open Go.RowKit Go.Deep

section
variable {a c d : Nat} {x y z : ByteArray}
theorem agree_inj (hx : Tn a x) (hy : Tn c y) (hz : Tn d z) (h : a + c ≤ 60000) (h2 : d + c ≤ 60000) (e : agreeT x (pubT y) = agreeT z (pubT y)) : x = z := by
  rw [agree_swap hx hy (by omega) (by omega), agree_swap hz hy (by omega) (by omega), agree_is hx (by omega), agree_is hz (by omega)] at e
  have h1 := make_read (k := 6) (n := 0) (b := []) (l := [y, x]) (by omega) (tn_two 6 (.inl rfl) hy hx (by omega)).ne
  have h2 := make_read (k := 6) (n := 0) (b := []) (l := [y, z]) (by omega) (tn_two 6 (.inl rfl) hy hz (by omega)).ne
  rw [e, h2] at h1
  simp only [Option.some.injEq, Prod.mk.injEq, true_and] at h1
  exact (sort_inj h1).symm
end
end
section
open Go.RowKit Go.Deep

section
variable {s e tt : ByteArray} {n : Nat} {ep cA hA uA kA cB ps sA hB uB kB cC nb sB hC : ByteArray}
end
section
variable {s e r o : ByteArray} {n sd : Nat} {ep cA hA uA kA cB ps sA hB uB kB cC nb sB hC : ByteArray}
/-- Anybody else does not. -/
theorem hear_other (E : BegE s e (pubT r) n ep cA hA uA kA cB ps sA hB uB kB cC nb sB hC) (hs : Tn 200 s) (he : Tn 200 e) (hr : Tn 200 r) (ho : Tn 200 o) (hne : o ≠ r) (hn : n < 18446744073709551616) : hearV o (begM sd ep sA sB) = noHrd 8 := by
  have b := E.sizes hs he hr hn
  have hkp : kindT ep = 5 := by rw [← E.e0]; exact pub_kind he (by omega)
  have uO : Tn 426 (agreeT o ep) := by rw [← E.e0]; exact (tn_agree ho he (by omega)).mono (by omega)
  have hneu : agreeT o ep ≠ uA := by
    intro h
    rw [← E.e3, agree_swap he hr (by omega) (by omega), ← E.e0] at h
    exact hne (agree_inj ho he hr (by omega) (by omega) h)
  obtain ⟨uX, hX⟩ : ∃ x, agreeT o ep = x := ⟨_, rfl⟩
  rw [hX] at uO hneu
  have kO : Tn 721 (kdfT 2 cA uX) := (tn_kdf 2 (by omega) b.cA uO (by omega)).mono (by omega)
  have cO : Tn 721 (kdfT 1 cA uX) := (tn_kdf 1 (by omega) b.cA uO (by omega)).mono (by omega)
  have hO : Tn 520 (begH (pubT o) ep) := (tn_begH (tn_pub ho (by omega)) b.ep (by omega)).mono (by omega)
  have o1 : openT sA (kdfT 2 cA uX) 0 (begH (pubT o) ep) = (ByteArray.empty, 8) := by
    rw [← E.e7, open_seal b.kA b.ps b.hA (by omega), if_neg]
    rintro ⟨h1, _⟩
    rw [← E.e4] at h1
    exact hneu (kdf_inj (by omega) (by omega) b.cA uO (by omega) h1).2.2
  have hRM := begin_right (sd := sd) b
  unfold hearV
  simp only [show (begM sd ep sA sB).x4 = ep from rfl, show (begM sd ep sA sB).x5 = sA from rfl, show (begM sd ep sA sB).k = 1 from rfl, hRM, E.e1, hX, o1]
  rw [if_neg, if_neg, if_pos (by decide)]
  · rw [made_all]
    · simp
    · intro p hp
      simp only [List.mem_cons, List.not_mem_nil, or_false] at hp
      rcases hp with rfl | rfl | rfl
      · exact cO.ne
      · exact hO.ne
      · exact kO.ne
  · rintro (h | h | h | h)
    · rw [termsB_yes (by intro p hp; rw [List.mem_singleton] at hp; subst hp; exact ho.1)] at h; cases h
    · cases h
    · exact h rfl
    · rw [pubs_one, hkp] at h; cases h
end
end
section
open Go.RowKit Go.Deep

set_option maxRecDepth 100000 in
set_option maxHeartbeats 12800000 in
theorem start_fields : Tryz.prog.underlying 72 = some (.struct (Tryz.prog.fieldsOf 72)) := by kernel_rfl
theorem start_same (n : Nat) (a : ByteArray) (b : ByteArray) (c : ByteArray) (W : World) : (binOp .eql 72 (.agg #[.int .u32 (n : Nat), .string a, .string b, .string c]) (.agg #[.int .u32 (n : Nat), .string a, .string b, .string c])).run Tryz.prog W = .ok (.bool true) W := by
  rw [run_eql_struct, run_equalIn_agg W 9999 _ _ _ start_fields (by kernel_rfl)]
  simp [Program.fieldsOf, Tryz.underlying72, Op.eqFields, go_sem]
theorem start_diff (n : Nat) (a : ByteArray) (b : ByteArray) (c : ByteArray) (W : World) : (binOp .neq 72 (.agg #[.int .u32 (n : Nat), .string a, .string b, .string c]) (.agg #[.int .u32 (n : Nat), .string a, .string b, .string c])).run Tryz.prog W = .ok (.bool false) W := by
  rw [run_neq_struct, run_equalIn_agg W 9999 _ _ _ start_fields (by kernel_rfl)]
  simp [Program.fieldsOf, Tryz.underlying72, Op.eqFields, go_sem]
set_option maxRecDepth 100000 in
set_option maxHeartbeats 12800000 in
theorem heard_fields : Tryz.prog.underlying 84 = some (.struct (Tryz.prog.fieldsOf 84)) := by kernel_rfl
theorem heard_diff (n : Nat) (a : ByteArray) (m : Nat) (b : ByteArray) (c : ByteArray) (d : ByteArray) (W : World) : (binOp .neq 84 (.agg #[.int .u32 (n : Nat), .string a, .int .u64 (m : Nat), .string b, .string c, .string d]) (.agg #[.int .u32 (n : Nat), .string a, .int .u64 (m : Nat), .string b, .string c, .string d])).run Tryz.prog W = .ok (.bool false) W := by
  rw [run_neq_struct, run_equalIn_agg W 9999 _ _ _ heard_fields (by kernel_rfl)]
  simp [Program.fieldsOf, Tryz.underlying84, Op.eqFields, go_sem]
section
variable {s e r f q : ByteArray} {n sd tu : Nat} {ep cA hA uA kA cB ps sA hB uB kB cC nb sB hC ep2 uA2 uB2 la ke wi em ka kb : ByteArray}
theorem Hear_key {o : ByteArray} (B : BegE s e (pubT r) n ep cA hA uA kA cB ps sA hB uB kB cC nb sB hC) (ts : Tn 200 s) (te : Tn 200 e) (tr : Tn 200 r) (hto : Tn 200 o) (hne : o ≠ r) (hn : n < 18446744073709551616) (hsd : sd < 4294967296) (w : World) (htab : Tab w) :
    Calls Tryz.prog 41 #[.string o, .agg #[.int .i64 1, .int .u32 (sd : Nat), .int .u32 0, .int .u64 0, .string ep, .string sA, .string sB, .string ⟨#[]⟩, .string ⟨#[]⟩, .string ⟨#[]⟩, .string ⟨#[]⟩, .string ⟨#[48]⟩, .string ⟨#[48]⟩]] w (HeaPost 8 #[.int .u32 0, .string ⟨#[]⟩, .int .u64 0, .string ⟨#[]⟩, .string ⟨#[]⟩, .string ⟨#[]⟩] w) := by
  have T := B.sizes ts te tr hn
  have h := Hear_any w o 1 sd 0 0 ep sA sB ⟨#[]⟩ ⟨#[]⟩ ⟨#[]⟩ ⟨#[]⟩ ⟨#[48]⟩ ⟨#[48]⟩ (hto.max (by omega)) (fine_beg hsd T.ep T.sA T.sB (by omega) (by omega) (by omega)) htab
  rw [show hearV o (Mg.mk 1 sd 0 0 ep sA sB ⟨#[]⟩ ⟨#[]⟩ ⟨#[]⟩ ⟨#[]⟩ ⟨#[48]⟩ ⟨#[48]⟩) = noHrd 8 from hear_other B ts te tr hto hne hn] at h
  exact h
end
end
section
open Go.RowKit Go.ChangeShapes Go.WideShapes Go.ChangeAt

theorem own_all : ownKnob Tryz.prog.godebug = none := by kernel_rfl
abbrev laidAll : List (String × DataW Unit) := [("math/bits.deBruijn32tab", Rows.laid_math_bits_deBruijn32tab), ("math/bits.deBruijn64tab", Rows.laid_math_bits_deBruijn64tab), ("internal/strconv.uint64pow10", Rows.laid_internal_strconv_uint64pow10)]

theorem tab_of_laid {W : World} (h : laidMetH Tryz.prog laidAll W) : Tab W := by
  rw [MakeChecks.laidMetH_plain _ _ _ (by kernel_rfl)] at h
  exact Lib.tabIs_of_head (g := 0) (t := 221) (e := 23) (n := 20) (rest := []) (by kernel_rfl) (by kernel_rfl) Tryz.underlying221 Tryz.underlying23 (by kernel_rfl) (by kernel_rfl) (laidMet.tail (laidMet.tail h))

theorem door_met (os : Os) (args : Array Value) : laidMetH Tryz.prog laidAll ((World.doorLaid Tryz.prog 400 os).forCall (fun _ _ => 0) ⟨#[], args, []⟩).memory := by
  rw [MakeChecks.laidMetH_plain _ _ _ (by kernel_rfl)]
  exact laidMet_of_run3 8 (by kernel_rfl) (by kernel_rfl) (by kernel_rfl)
end
section
open Go.RowKit Go.Deep

def bigB (l : List ByteArray) : Bool := l.any fun p => decide (200 < p.size)
theorem any_yes {l : List ByteArray} {f : ByteArray → Bool} {j : Nat} (hj : j < l.length) (h : f (l.getD j ByteArray.empty) = true) : l.any f = true := by
  rw [List.any_eq_true]
  refine ⟨l.getD j ByteArray.empty, ?_, h⟩
  rw [List.getD_eq_getElem?_getD, List.getElem?_eq_getElem hj]
  exact List.getElem_mem hj
theorem any_no {l : List ByteArray} {f : ByteArray → Bool} (h : ∀ j, j < l.length → f (l.getD j ByteArray.empty) = false) : l.any f = false := by
  rw [List.any_eq_false]
  intro p hp
  obtain ⟨j, hj, rfl⟩ := List.getElem_of_mem hp
  have := h j hj
  rw [List.getD_eq_getElem?_getD, List.getElem?_eq_getElem hj] at this
  rw [show f l[j] = false from this]
  decide
set_option maxRecDepth 100000 in
set_option maxHeartbeats 12800000 in
theorem big10_any (w : World) (v : Value) (l : List ByteArray) (hv : Rd w [] v (strs l)) (hsz : ∀ p ∈ l, p.size ≤ maxLen) : Calls Tryz.prog 37 #[v] w (RetB (bigB l) w) := by
  obtain ⟨A, cap, rfl, hc1, hc2⟩ := hv.form
  unfold maxLen at hc2
  rw [strs_length] at hv hc1 ⊢
  obtain ⟨n, hn⟩ : ∃ n, n = l.length := ⟨_, rfl⟩
  rw [← hn] at hv hc1 ⊢
  have HX := hide hv
  have HN := hide hn
  have HO := hide (Only.refl [] w)
  have HSZ := hide hsz
  clear hv hn hsz
  go_enter Tryz.func37, Tryz.ntmps37
  go_wp2_with fail
  go_loopw [3] (fun i wr => ∃ j : Nat, j ≤ n ∧ i = .int .i64 j ∧ Hid (∀ i, i < j → (fun p => decide (200 < p.size)) (l.getD i ByteArray.empty) = false) ∧ Hid (Only [] w wr)) (fun i _ => n - (intOf i).toNat)
  case atStart => exact ⟨0, Nat.zero_le _, rfl, hide (fun i h => absurd h (Nat.not_lt_zero i)), HO⟩
  case round =>
    clear HO
    obtain ⟨j, hj, rfl, HA, HO⟩ := hrel
    by_cases hlt : j < n
    · have hltI : (j : Int) < n := by omega
      have hjl : j < l.length := by rw [← HN.out]; exact hlt
      obtain ⟨g, o, rfl, _, hg, hcell⟩ := (HX.out.only HO.out (by simp)).at_.2.2.2 j _ (get_txt hjl)
      have hpz : (l.getD j ByteArray.empty).size ≤ maxLen := HSZ.out _ (by rw [List.getD_eq_getElem?_getD, List.getElem?_eq_getElem hjl]; exact List.getElem_mem hjl)
      unfold maxLen at hpz
      generalize hp : l.getD j ByteArray.empty = p at *
      by_cases he : 200 < p.size
      · have hei : (200 : Int) < (p.size : Nat) := by omega
        have HR := hide (show bigB l = true from any_yes hjl (by rw [hp]; exact decide_eq_true he))
        clear hp he hjl
        go_wp2_with fail
        go_ret
        exact retb HR.out HO.out
      · have hei : ¬ (200 : Int) < (p.size : Nat) := by omega
        have HZ := hide (show ∀ i, i < j + 1 → (fun p => decide (200 < p.size)) (l.getD i ByteArray.empty) = false from fun i hi => (Nat.lt_or_eq_of_le (Nat.le_of_lt_succ hi)).elim (HA.out i) (fun h => by rw [h, hp]; exact decide_eq_false he))
        clear hp he hjl
        go_wp2_with fail
        go_roundw
        case rel => exact ⟨j + 1, by omega, by go_num, HZ, HO⟩
        case measure => simp [intOf]; omega
    · have hge : ¬ (j : Int) < n := by omega
      have HR := hide (show bigB l = false from any_no (fun i hi => HA.out i (by have := HN.out; omega)))
      go_wp2_with fail
      go_ret
      exact retb HR.out HO.out
theorem big10_new4 (w : World) (G : Nat) (hG : G = w.heap.size) (x0 x1 x2 x3 : ByteArray) (h0 : x0.size ≤ maxLen) (h1 : x1.size ≤ maxLen) (h2 : x2.size ≤ maxLen) (h3 : x3.size ≤ maxLen) : Calls Tryz.prog 37 #[.slice (some ⟨G, 0, none⟩) 4 4] (w.alloc (.cells #[.string x0, .string x1, .string x2, .string x3] 9)) (RetB (bigB [x0, x1, x2, x3]) w) := by
  subst hG
  exact (big10_any (w.alloc (.cells #[.string x0, .string x1, .string x2, .string x3] 9)) _ [x0, x1, x2, x3] (rd_new w 9 [] (strs [x0, x1, x2, x3]) (by simp) (by unfold maxLen; show 4 ≤ _; omega)) (by intro p hp; simp at hp; rcases hp with rfl | rfl | rfl | rfl <;> assumption)).mono fun e w' h => ⟨h.1, ((Only.refl [] w).alloc _).trans h.2⟩
end
section
open Go.RowKit Go.Deep

theorem first_is : makeV 7 0 [] [⟨#[120, 55, 51, 54, 101, 54, 57, 54, 51, 54, 98, 54, 53, 55, 52]⟩] = ⟨#[104, 40, 120, 55, 51, 54, 101, 54, 57, 54, 51, 54, 98, 54, 53, 55, 52, 41]⟩ := by
  rw [made_of [] (by omega) (by omega) (by omega) (fun h => by cases h) (by show fitsV 7 1 = true; decide) (by intro p hp; simp at hp; subst hp; kernel_rfl) (by show 15 + 1 + 0 ≤ 65000; omega), sort_not6 (by omega)]
  kernel_rfl
theorem results_tmp_cell {P : Program} {fn : Func} {p q : Tmp} {ty : TypeId} (h : fn.results = #[.tmp q, .cell p ty]) (tmps : Array Value) (w : World) (g : Nat) (t : TypeId) (cs : Array Value) (fr : Nat × Nat) (d : TypeDesc)
    (hp : tmps.getD p undef = .pointer (some ⟨g, 0, none⟩)) (hg : w.heap[g]? = some (.cells cs t fr))
    (hu : P.underlying ty = some d) (hd : (match d with | .struct _ | .array _ _ => true | _ => false) = true) (hi : (P.info? ty).map (·.size) = some cs.size) :
    (results fn tmps).run P w = .ok (.tuple #[tmps.getD q undef, .agg cs]) w := by
  have hp' : tmps[p]?.getD undef = .pointer (some ⟨g, 0, none⟩) := by simpa using hp
  simp [results, h, hp', asAddr, run_loadVar_row w g t ty cs fr d hg hu hd hi]
set_option maxRecDepth 100000 in
set_option maxHeartbeats 12800000 in
theorem KdfR_any (w : World) (n : Nat) (hn : n < 18446744073709551616) (x y : ByteArray) (hx : x.size ≤ maxLen) (hy : y.size ≤ maxLen) : Calls Tryz.prog 102 #[.int .u64 n, .string x, .string y] w (MakePost (kdfT n x y) w) := by
  have HN := hide hn
  clear hn
  go_enter Tryz.func102, Tryz.ntmps102
  go_wp2_with (go_at_call 101; refine (makeR_new2 _ _ rfl 8 n HN.out x y hx hy).mono ?_; rintro e w2 ⟨rfl, ho⟩; have HO := hide ho; clear ho)
  go_ret
  exact makepost rfl HO.out
theorem KdfR1_any (w : World) (x y : ByteArray) (hx : x.size ≤ maxLen) (hy : y.size ≤ maxLen) : Calls Tryz.prog 102 #[.int .u64 1, .string x, .string y] w (MakePost (kdfT 1 x y) w) := KdfR_any w 1 (by omega) x y hx hy
theorem KdfR2_any (w : World) (x y : ByteArray) (hx : x.size ≤ maxLen) (hy : y.size ≤ maxLen) : Calls Tryz.prog 102 #[.int .u64 2, .string x, .string y] w (MakePost (kdfT 2 x y) w) := KdfR_any w 2 (by omega) x y hx hy
set_option maxRecDepth 100000 in
set_option maxHeartbeats 12800000 in
theorem hashR_any (w : World) (x y : ByteArray) (hx : x.size ≤ maxLen) (hy : y.size ≤ maxLen) : Calls Tryz.prog 103 #[.string x, .string y] w (MakePost (hashT x y) w) := by
  go_enter Tryz.func103, Tryz.ntmps103
  go_wp2_with (go_at_call 59; refine (hashR_new2 _ _ rfl x y hx hy).mono ?_; rintro e w2 ⟨rfl, ho⟩; have HO := hide ho; clear ho)
  go_ret
  exact makepost rfl HO.out
theorem hashR_new1 (w : World) (G : Nat) (hG : G = w.heap.size) (x : ByteArray) (hx : x.size ≤ maxLen) :
    Calls Tryz.prog 59 #[.slice (some ⟨G, 0, none⟩) 1 1] (w.alloc (.cells #[.string x] 9)) (MakePost (makeV 7 0 [] [x]) w) := by
  subst hG
  exact (HashR_any (w.alloc (.cells #[.string x] 9)) _ [x] (by simp) (fun p hp => by simp at hp; subst hp; exact hx) (rd_new w 9 [] (strs [x]) (by simp) (by unfold maxLen; show 1 ≤ _; omega))).mono fun e w' h => ⟨h.1, ((Only.refl [] w).alloc _).trans h.2⟩
set_option maxRecDepth 100000 in
set_option maxHeartbeats 12800000 in
theorem FirstR_any (w : World) (p eph : ByteArray) (hp : p.size ≤ maxLen) (he : eph.size ≤ maxLen) : Calls Tryz.prog 98 #[.string p, .string eph] w (StatePost (begC eph) (begH p eph) w) := by
  have HB := hide (Blk.new w 80 #[.string ⟨#[]⟩, .string ⟨#[]⟩])
  have HO := hide ((Only.refl [] w).alloc (.cells #[.string ⟨#[]⟩, .string ⟨#[]⟩] 80))
  have K0 := hide (fun W G hG => hashR_new1 W G hG ⟨#[120, 55, 51, 54, 101, 54, 57, 54, 51, 54, 98, 54, 53, 55, 52]⟩ (by unfold maxLen; show 15 ≤ _; omega))
  have K1 := hide (fun W => KdfR1_any W ⟨#[104, 40, 120, 55, 51, 54, 101, 54, 57, 54, 51, 54, 98, 54, 53, 55, 52, 41]⟩ eph first_size he)
  have K2 := hide (fun W => hashR_any W ⟨#[104, 40, 120, 55, 51, 54, 101, 54, 57, 54, 51, 54, 98, 54, 53, 55, 52, 41]⟩ p first_size hp)
  have K3 := hide (fun W => hashR_any W (hashT ⟨#[104, 40, 120, 55, 51, 54, 101, 54, 57, 54, 51, 54, 98, 54, 53, 55, 52, 41]⟩ p) eph (hashT_size _ _) he)
  rw [first_is] at K0
  unfold MakePost at K0 K1 K2 K3
  clear hp he
  go_enter Tryz.func98, Tryz.ntmps98
  go_upto_region 1 with fail
  generalize (w.alloc (.cells #[.string ⟨#[]⟩, .string ⟨#[]⟩] 80)) = v0 at *
  have b0 := HB.out.cell 0; have b1 := HB.out.cell 1; simp at b0 b1; have bf := HB.out.frozen
  go_wp2_with (first
    | (go_at_call 59; (with_reducible refine (K0.out _ _ rfl).mono ?_); rintro e w1 ⟨rfl, ho⟩; replace HB := hon HB ho; replace HO := htr HO ho; clear ho; (first | (clear b0 b1 bf) | skip); have b0 := HB.out.cell 0; have b1 := HB.out.cell 1; simp at b0 b1; have bf := HB.out.frozen)
    | (go_at_call 102; (with_reducible refine (K1.out _).mono ?_); rintro e w2 ⟨rfl, ho⟩; replace HB := hon HB ho; replace HO := htr HO ho; clear ho; (first | (clear b0 b1 bf) | skip); have b0 := HB.out.cell 0; have b1 := HB.out.cell 1; simp at b0 b1; have bf := HB.out.frozen)
    | (go_at_call 103; (with_reducible refine (K2.out _).mono ?_); rintro e w3 ⟨rfl, ho⟩; replace HB := hon HB ho; replace HO := htr HO ho; clear ho; (first | (clear b0 b1 bf) | skip); have b0 := HB.out.cell 0; have b1 := HB.out.cell 1; simp at b0 b1; have bf := HB.out.frozen)
    | (go_at_call 103; (with_reducible refine (K3.out _).mono ?_); rintro e w4 ⟨rfl, ho⟩; replace HB := hon HB ho; replace HO := htr HO ho; clear ho; (first | (clear b0 b1 bf) | skip); have b0 := HB.out.cell 0; have b1 := HB.out.cell 1; simp at b0 b1; have bf := HB.out.frozen))
  refine bodyPost_ret (results_cell_row rfl _ _ w.heap.size 80 _ (0, 0) _ rfl ((HB.out.set_ 0 _).set_ 1 _) Tryz.underlying80 rfl (by kernel_rfl)) rfl ?_
  exact ⟨rfl, (HO.out.setCell (.inr (Nat.le_refl _)) _).setCell (.inr (Nat.le_refl _)) _⟩
set_option maxRecDepth 100000 in
set_option maxHeartbeats 12800000 in
theorem SealsR_in (w : World) (c h u inner k2 tt c2 h2 : ByteArray) (hc : c.size ≤ maxLen) (hh : h.size ≤ maxLen) (hu : u.size ≤ maxLen) (hi : inner.size ≤ maxLen) (e1 : kdfT 2 c u = k2) (e2 : sealN k2 inner h = tt) (e3 : kdfT 1 c u = c2) (e4 : hashT h tt = h2) :
    Calls Tryz.prog 99 #[.agg #[.string c, .string h], .string u, .string inner] w fun e w' => e = .returned (.tuple #[.string tt, .agg #[.string c2, .string h2]]) ∧ Only [] w w' := by
  have z1 : k2.size ≤ maxLen := e1 ▸ kdfT_size 2 (by omega) _ _
  have z2 : tt.size ≤ maxLen := e2 ▸ sealN_size _ _ _
  have K1 := hide (fun W => KdfR2_any W c u hc hu)
  have K2 := hide (fun W => (show Calls Tryz.prog 68 #[.int .u64 0, .string k2, .string inner, .string h] W (MakePost (sealN k2 inner h) W) from SealR_any W 0 (by omega) k2 inner h z1 hi hh))
  have K3 := hide (fun W => KdfR1_any W c u hc hu)
  have K4 := hide (fun W => hashR_any W h tt hh z2)
  rw [e1] at K1; rw [e2] at K2; rw [e3] at K3; rw [e4] at K4
  unfold MakePost at K1 K2 K3 K4
  have HB := hide ((Blk.new w 80 #[.string c, .string h]).alloc (.cells #[.string ⟨#[]⟩, .string ⟨#[]⟩] 80))
  have HR := hide (Blk.new (w.alloc (.cells #[.string c, .string h] 80)) 80 #[.string ⟨#[]⟩, .string ⟨#[]⟩])
  rw [World.size_alloc] at HR
  have HO := hide (((Only.refl [] w).alloc (.cells #[.string c, .string h] 80)).alloc (.cells #[.string ⟨#[]⟩, .string ⟨#[]⟩] 80))
  clear hc hh hu hi e1 e2 e3 e4 z1 z2
  go_enter Tryz.func99, Tryz.ntmps99
  go_upto_region 1 with fail
  generalize ((w.alloc (.cells #[.string c, .string h] 80)).alloc (.cells #[.string ⟨#[]⟩, .string ⟨#[]⟩] 80)) = v0 at *
  refine wp_region_held_drew (S := fun W => Only [] v0 W) (by kernel_rfl) (by exact (Only.refl [] v0).drew) (fun hHeld => ?_); generalize v0.drew = wd1 at *
  refine tk 0 ?_; refine tk 1 ?_ (hy := by (intro w hSw; (try dsimp only at hSw); have HBw := HB.out.only hSw (by simp); have b0 := HBw.cell 0; simp at b0; clear HBw; go_simp; try with_reducible rfl)); refine tk 2 ?_; refine tk 4 ?_
  refine tk 5 ?_; refine tk 6 ?_ (hy := by (intro w hSw; (try dsimp only at hSw); have HBw := HB.out.only hSw (by simp); have b1 := HBw.cell 1; simp at b1; clear HBw; go_simp; try with_reducible rfl))
  refine wpAnyH_ready (rs := [3]) (by kernel_rfl) (by simp) ?_; refine (AllReadyH.cons rfl (fun K hK => ?_) AllReadyH.nil); go_simp; (go_at_call 102; refine (K1.out _).mono ?_; rintro e w3 ⟨rfl, ho⟩)
  refine hK.out _ _ (by first | exact hHeld.trans ho | exact hHeld.trans (ho.mono (by simp))) (fun hN => ?_); clear hK K ho hHeld; have hHeld := hN; clear hN; (try simp only [zsa, zsb, zsc, Act.put, zsd, zse, zsf])
  refine wpAnyH_ready (rs := [7]) (by kernel_rfl) (by simp) ?_; refine (AllReadyH.cons rfl (fun K hK => ?_) AllReadyH.nil); go_simp; (go_at_call 68; refine (K2.out _).mono ?_; rintro e w7 ⟨rfl, ho⟩)
  refine hK.out _ _ (by first | exact hHeld.trans ho | exact hHeld.trans (ho.mono (by simp))) (fun hN => ?_); clear hK K ho hHeld; have hHeld := hN; clear hN; (try simp only [zsa, zsb, zsc, Act.put, zsd, zse, zsf])
  refine tk 8 ?_; refine wpAnyH_done (by kernel_rfl) ?_ _
  replace HB := hon HB hHeld
  replace HR := hon HR hHeld.drew
  replace HO := htr HO hHeld
  clear hHeld
  go_upto_region 2 with fail
  refine wp_region_held_drew (S := fun W => Only [w.heap.size + 1] w7 W) (by kernel_rfl) (by exact (Only.refl [w.heap.size + 1] w7).drew) (fun hHeld => ?_); generalize w7.drew = wd2 at *
  refine tk 0 ?_; refine tk 1 ?_; refine tk 2 ?_ (hy := by (intro w hSw; (try dsimp only at hSw); have HBw := HB.out.only hSw (by simp); have b0 := HBw.cell 0; simp at b0; clear HBw; go_simp; try with_reducible rfl)); refine tk 3 ?_
  refine tk 5 ?_; refine tk 6 ?_ (hy := by (intro w hSw; (try dsimp only at hSw); have HBw := HB.out.only hSw (by simp); have b1 := HBw.cell 1; simp at b1; clear HBw; go_simp; try with_reducible rfl)); refine tk 7 ?_
  refine wpAnyH_ready (rs := [4]) (by kernel_rfl) (by simp) ?_; refine (AllReadyH.cons rfl (fun K hK => ?_) AllReadyH.nil); go_simp
  (go_at_call 102; refine (K3.out _).mono ?_; rintro e w4 ⟨rfl, ho⟩; replace HR := hon HR ho)
  refine hK.out _ _ (by first | exact hHeld.trans ho | exact hHeld.trans (ho.mono (by simp))) (fun hN => ?_); clear hK K ho hHeld; have hHeld := hN; clear hN; (try simp only [zsa, zsb, zsc, Act.put, zsd, zse, zsf])
  refine wpAnyH_ready (rs := [8]) (by kernel_rfl) (by simp) ?_; refine (AllReadyH.cons rfl (fun K hK => ?_) AllReadyH.nil); go_simp
  (go_at_call 103; refine (K4.out _).mono ?_; rintro e w8 ⟨rfl, ho⟩; replace HR := hon HR ho)
  refine hK.out _ _ (by first | exact hHeld.trans ho | exact hHeld.trans (ho.mono (by simp))) (fun hN => ?_); clear hK K ho hHeld; have hHeld := hN; clear hN; (try simp only [zsa, zsb, zsc, Act.put, zsd, zse, zsf])
  refine tk 9 ?_; refine tk 10 ?_; refine wpAnyH_ready (rs := [11]) (by kernel_rfl) (by simp) ?_; refine (AllReadyH.cons rfl (fun K hK => ?_) AllReadyH.nil); skip; rw [if_pos (by rfl)]
  refine wp_store_mid _ _ _ rfl _ _ #[.string c2, .string h2] rfl rfl (blk_there HR.out _ rfl) (by kernel_rfl) (by simp [Value.oneCell']) ?_
  replace HR := hide (show Blk (w8.setCells (w.heap.size + 1) 0 [.string c2, .string h2]) _ _ #[.string c2, .string h2] from blk_stored HR.out [.string c2, .string h2] rfl)
  refine hK.out _ _ (by exact Only.setCells (.inl (by simp)) 0 [.string c2, .string h2] hHeld) (fun hHeldN => ?_); clear hK K hHeld; have hHeld := hHeldN; clear hHeldN; (try simp only [zsa, zsb, zsc, Act.put])
  refine wpAnyH_done (by kernel_rfl) ?_ _
  (repeat go_step)
  refine bodyPost_ret (results_tmp_cell rfl _ _ (w.heap.size + 1) 80 _ (0, 0) _ rfl HR.out Tryz.underlying80 rfl (by kernel_rfl)) rfl ?_
  exact ⟨rfl, ((HO.out.mono (by simp)).trans hHeld).mono (by intro x hx; right; simp at hx; omega)⟩
theorem SealsR_any (w : World) (c h u inner : ByteArray) (hc : c.size ≤ maxLen) (hh : h.size ≤ maxLen) (hu : u.size ≤ maxLen) (hi : inner.size ≤ maxLen) :
    Calls Tryz.prog 99 #[.agg #[.string c, .string h], .string u, .string inner] w fun e w' => e = .returned (.tuple #[.string (sealN (kdfT 2 c u) inner h), .agg #[.string (kdfT 1 c u), .string (hashT h (sealN (kdfT 2 c u) inner h))]]) ∧ Only [] w w' :=
  SealsR_in w c h u inner _ _ _ _ hc hh hu hi rfl rfl rfl rfl
end
end Go.Proofs.YtfipdjlalfpbnaaGreatDoor

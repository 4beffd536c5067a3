/-
  Walks and plain words (texts Laid, Nl0, Nlw0, No6, Nq0, Hv, No8, Nf0). No condition beyond those that each theorem states.
-/
import Derived.Test.YtfipdjlalfpbnaaGreatDoorRows
import Derived.Lib.LaidTab
import Derived.Deep.DeepLaidRun
import Derived.Stop.LaidErr
import Derived.LaidMore
import Derived.Test.YtfipdjlalfpbnaaGreatDoorP14
import Derived.Test.YtfipdjlalfpbnaaGreatDoorP25
import Derived.Test.YtfipdjlalfpbnaaGreatDoorP27
import Derived.Test.YtfipdjlalfpbnaaGreatDoorP29
import Derived.Test.YtfipdjlalfpbnaaGreatDoorP32
import Derived.Test.YtfipdjlalfpbnaaGreatDoorP35
import Derived.Test.YtfipdjlalfpbnaaGreatDoorP39
namespace Go.Proofs.YtfipdjlalfpbnaaGreatDoor
section
open Go.RowKit Go.ChangeShapes Go.WideShapes Go.ChangeAt

theorem own_all : ownKnob Tryz.prog.godebug = none := by kernel_rfl
theorem laidOut_all : laidOutB Tryz.prog = true := by kernel_rfl
abbrev laidAll : List (String × DataW Unit) := [("math/bits.deBruijn32tab", Rows.laid_math_bits_deBruijn32tab), ("math/bits.deBruijn64tab", Rows.laid_math_bits_deBruijn64tab), ("internal/strconv.uint64pow10", Rows.laid_internal_strconv_uint64pow10)]

theorem tab_of_laid {W : World} (h : laidMetH Tryz.prog laidAll W) : Tab W := by
  rw [MakeChecks.laidMetH_plain _ _ _ (by kernel_rfl)] at h
  exact Lib.tabIs_of_head (g := 0) (t := 221) (e := 23) (n := 20) (rest := []) (by kernel_rfl) (by kernel_rfl) Tryz.underlying221 Tryz.underlying23 (by kernel_rfl) (by kernel_rfl) (laidMet.tail (laidMet.tail h))

theorem door_met (os : Os) (args : Array Value) : laidMetH Tryz.prog laidAll ((World.doorLaid Tryz.prog 400 os).forCall (fun _ _ => 0) ⟨#[], args, []⟩).memory := by
  rw [MakeChecks.laidMetH_plain _ _ _ (by kernel_rfl)]
  exact laidMet_of_run3 8 (by kernel_rfl) (by kernel_rfl) (by kernel_rfl)
end
section
open Go.RowKit Go.Deep

def bigB (l : List ByteArray) : Bool := l.any fun p => decide (200 < p.size)
theorem any_yes {l : List ByteArray} {f : ByteArray → Bool} {j : Nat} (hj : j < l.length) (h : f (l.getD j ByteArray.empty) = true) : l.any f = true := by
  rw [List.any_eq_true]
  refine ⟨l.getD j ByteArray.empty, ?_, h⟩
  rw [List.getD_eq_getElem?_getD, List.getElem?_eq_getElem hj]
  exact List.getElem_mem hj
theorem any_no {l : List ByteArray} {f : ByteArray → Bool} (h : ∀ j, j < l.length → f (l.getD j ByteArray.empty) = false) : l.any f = false := by
  rw [List.any_eq_false]
  intro p hp
  obtain ⟨j, hj, rfl⟩ := List.getElem_of_mem hp
  have := h j hj
  rw [List.getD_eq_getElem?_getD, List.getElem?_eq_getElem hj] at this
  rw [show f l[j] = false from this]
  decide
set_option maxRecDepth 100000 in
set_option maxHeartbeats 12800000 in
theorem big10_any (w : World) (v : Value) (l : List ByteArray) (hv : Rd w [] v (strs l)) (hsz : ∀ p ∈ l, p.size ≤ maxLen) : Calls Tryz.prog 37 #[v] w (RetB (bigB l) w) := by
  obtain ⟨A, cap, rfl, hc1, hc2⟩ := hv.form
  unfold maxLen at hc2
  rw [strs_length] at hv hc1 ⊢
  obtain ⟨n, hn⟩ : ∃ n, n = l.length := ⟨_, rfl⟩
  rw [← hn] at hv hc1 ⊢
  have HX := hide hv
  have HN := hide hn
  have HO := hide (Only.refl [] w)
  have HSZ := hide hsz
  clear hv hn hsz
  go_enter Tryz.func37, Tryz.ntmps37
  go_wp2_with fail
  go_loopw [3] (fun i wr => ∃ j : Nat, j ≤ n ∧ i = .int .i64 j ∧ Hid (∀ i, i < j → (fun p => decide (200 < p.size)) (l.getD i ByteArray.empty) = false) ∧ Hid (Only [] w wr)) (fun i _ => n - (intOf i).toNat)
  case atStart => exact ⟨0, Nat.zero_le _, rfl, hide (fun i h => absurd h (Nat.not_lt_zero i)), HO⟩
  case round =>
    clear HO
    obtain ⟨j, hj, rfl, HA, HO⟩ := hrel
    by_cases hlt : j < n
    · have hltI : (j : Int) < n := by omega
      have hjl : j < l.length := by rw [← HN.out]; exact hlt
      obtain ⟨g, o, rfl, _, hg, hcell⟩ := (HX.out.only HO.out (by simp)).at_.2.2.2 j _ (get_txt hjl)
      have hpz : (l.getD j ByteArray.empty).size ≤ maxLen := HSZ.out _ (by rw [List.getD_eq_getElem?_getD, List.getElem?_eq_getElem hjl]; exact List.getElem_mem hjl)
      unfold maxLen at hpz
      generalize hp : l.getD j ByteArray.empty = p at *
      by_cases he : 200 < p.size
      · have hei : (200 : Int) < (p.size : Nat) := by omega
        have HR := hide (show bigB l = true from any_yes hjl (by rw [hp]; exact decide_eq_true he))
        clear hp he hjl
        go_wp2_with fail
        go_ret
        exact retb HR.out HO.out
      · have hei : ¬ (200 : Int) < (p.size : Nat) := by omega
        have HZ := hide (show ∀ i, i < j + 1 → (fun p => decide (200 < p.size)) (l.getD i ByteArray.empty) = false from fun i hi => (Nat.lt_or_eq_of_le (Nat.le_of_lt_succ hi)).elim (HA.out i) (fun h => by rw [h, hp]; exact decide_eq_false he))
        clear hp he hjl
        go_wp2_with fail
        go_roundw
        case rel => exact ⟨j + 1, by omega, by go_num, HZ, HO⟩
        case measure => simp [intOf]; omega
    · have hge : ¬ (j : Int) < n := by omega
      have HR := hide (show bigB l = false from any_no (fun i hi => HA.out i (by have := HN.out; omega)))
      go_wp2_with fail
      go_ret
      exact retb HR.out HO.out
theorem big10_new9 (w : World) (G : Nat) (hG : G = w.heap.size) (x0 x1 x2 x3 x4 x5 x6 x7 x8 : ByteArray) (h0 : x0.size ≤ maxLen) (h1 : x1.size ≤ maxLen) (h2 : x2.size ≤ maxLen) (h3 : x3.size ≤ maxLen) (h4 : x4.size ≤ maxLen) (h5 : x5.size ≤ maxLen) (h6 : x6.size ≤ maxLen) (h7 : x7.size ≤ maxLen) (h8 : x8.size ≤ maxLen) : Calls Tryz.prog 37 #[.slice (some ⟨G, 0, none⟩) 9 9] (w.alloc (.cells #[.string x0, .string x1, .string x2, .string x3, .string x4, .string x5, .string x6, .string x7, .string x8] 9)) (RetB (bigB [x0, x1, x2, x3, x4, x5, x6, x7, x8]) w) := by
  subst hG
  exact (big10_any (w.alloc (.cells #[.string x0, .string x1, .string x2, .string x3, .string x4, .string x5, .string x6, .string x7, .string x8] 9)) _ [x0, x1, x2, x3, x4, x5, x6, x7, x8] (rd_new w 9 [] (strs [x0, x1, x2, x3, x4, x5, x6, x7, x8]) (by simp) (by unfold maxLen; show 9 ≤ _; omega)) (by intro p hp; simp at hp; rcases hp with rfl | rfl | rfl | rfl | rfl | rfl | rfl | rfl | rfl <;> assumption)).mono fun e w' h => ⟨h.1, ((Only.refl [] w).alloc _).trans h.2⟩
end
section
open Go.RowKit Go.Deep

theorem wf_u64 {n : Int} (h : (Lit.int .u64 n).wf = true) : ∃ m : Nat, n = m ∧ m < 18446744073709551616 := by
  simp only [Lit.wf, Bool.and_eq_true, decide_eq_true_eq] at h
  have e1 : IntKind.u64.min = 0 := rfl
  have e2 : IntKind.u64.max = 18446744073709551615 := rfl
  exact ⟨n.toNat, by omega, by omega⟩
theorem wf_u32 {n : Int} (h : (Lit.int .u32 n).wf = true) : ∃ m : Nat, n = m ∧ m < 4294967296 := by
  simp only [Lit.wf, Bool.and_eq_true, decide_eq_true_eq] at h
  have e1 : IntKind.u32.min = 0 := rfl
  have e2 : IntKind.u32.max = 4294967295 := rfl
  exact ⟨n.toNat, by omega, by omega⟩
theorem big_no {l : List ByteArray} (h : bigB l = false) : ∀ p ∈ l, p.size ≤ 200 := by
  intro p hp
  unfold bigB at h
  rw [List.any_eq_false] at h
  have := h p hp
  simp only [decide_eq_true_eq] at this
  omega
end
section
open Go.RowKit Go.Deep

set_option maxRecDepth 100000 in
set_option maxHeartbeats 12800000 in
theorem KdfR_any (w : World) (n : Nat) (hn : n < 18446744073709551616) (x y : ByteArray) (hx : x.size ≤ maxLen) (hy : y.size ≤ maxLen) : Calls Tryz.prog 102 #[.int .u64 n, .string x, .string y] w (MakePost (kdfT n x y) w) := by
  have HN := hide hn
  clear hn
  go_enter Tryz.func102, Tryz.ntmps102
  go_wp2_with (go_at_call 101; refine (makeR_new2 _ _ rfl 8 n HN.out x y hx hy).mono ?_; rintro e w2 ⟨rfl, ho⟩; have HO := hide ho; clear ho)
  go_ret
  exact makepost rfl HO.out
theorem KdfR1_any (w : World) (x y : ByteArray) (hx : x.size ≤ maxLen) (hy : y.size ≤ maxLen) : Calls Tryz.prog 102 #[.int .u64 1, .string x, .string y] w (MakePost (kdfT 1 x y) w) := KdfR_any w 1 (by omega) x y hx hy
theorem KdfR2_any (w : World) (x y : ByteArray) (hx : x.size ≤ maxLen) (hy : y.size ≤ maxLen) : Calls Tryz.prog 102 #[.int .u64 2, .string x, .string y] w (MakePost (kdfT 2 x y) w) := KdfR_any w 2 (by omega) x y hx hy
theorem KdfR3_any (w : World) (x y : ByteArray) (hx : x.size ≤ maxLen) (hy : y.size ≤ maxLen) : Calls Tryz.prog 102 #[.int .u64 3, .string x, .string y] w (MakePost (kdfT 3 x y) w) := KdfR_any w 3 (by omega) x y hx hy
set_option maxRecDepth 100000 in
set_option maxHeartbeats 12800000 in
theorem hashR_any (w : World) (x y : ByteArray) (hx : x.size ≤ maxLen) (hy : y.size ≤ maxLen) : Calls Tryz.prog 103 #[.string x, .string y] w (MakePost (hashT x y) w) := by
  go_enter Tryz.func103, Tryz.ntmps103
  go_wp2_with (go_at_call 59; refine (hashR_new2 _ _ rfl x y hx hy).mono ?_; rintro e w2 ⟨rfl, ho⟩; have HO := hide ho; clear ho)
  go_ret
  exact makepost rfl HO.out
end
section
open Go.RowKit Go.Deep

theorem readR_cells (w : World) (s : ByteArray) (hs : s.size ≤ maxLen) : Calls Tryz.prog 39 #[.string s] w fun e w' => ∃ A1 n1 c1 A2 n2 c2, e = .returned (.agg #[.int .i64 (whatV s).1, .int .u64 ((whatV s).2.1 : Nat), .slice A1 n1 c1, .slice A2 n2 c2]) ∧ Only [] w w' :=
  (readR_what w s hs).mono fun e w' h => by
    obtain ⟨bv, pv, h1, h2, h3, h4⟩ := h
    obtain ⟨A, cap, rfl, _, _⟩ := h3.formb
    obtain ⟨A2, cap2, rfl, _, _⟩ := h4.form
    exact ⟨A, _, cap, A2, _, cap2, h1, h2⟩
theorem node_field (k : Int) : ∀ (n : Int) (A1 A2 : Option Addr) (n1 c1 n2 c2 : Nat) (W : World), (Instr.field 77 (.agg #[.int .i64 k, .int .u64 n, .slice A1 n1 c1, .slice A2 n2 c2]) 0).run Tryz.prog W = .ok (.int .i64 k) W := fun n A1 A2 n1 c1 n2 c2 W => by kernel_rfl
end
section
open Go.RowKit Go.Deep

def heavyV (m : Mg) (q : Int) : Bool := decide (q < wrap64 (wrap64 (wrap64 (wrap64 (wrap64 (wrap64 (wrap64 (wrap64 ((m.x4.size : Int) + (m.x5.size : Int)) + (m.x6.size : Int)) + (m.x7.size : Int)) + (m.x8.size : Int)) + (m.x9.size : Int)) + (m.x10.size : Int)) + (m.x11.size : Int)) + (m.x12.size : Int)))
set_option maxRecDepth 100000 in
set_option maxHeartbeats 12800000 in
theorem Heavy_any (m : Mg) (q : Int) (w : World) : Calls Tryz.prog 28 #[.agg m.cells, .int .i64 q] w (RetB (heavyV m q) w) := by
  obtain ⟨k, s, r, c, x4, x5, x6, x7, x8, x9, x10, x11, x12⟩ := m
  unfold Mg.cells heavyV RetB
  simp only
  · have HMB := hide (Blk.new w 25 #[.int .i64 k, .int .u32 (s : Nat), .int .u32 (r : Nat), .int .u64 (c : Nat), .string x4, .string x5, .string x6, .string x7, .string x8, .string x9, .string x10, .string x11, .string x12])
    have HO := hide ((Only.refl [] w).alloc (.cells #[.int .i64 k, .int .u32 (s : Nat), .int .u32 (r : Nat), .int .u64 (c : Nat), .string x4, .string x5, .string x6, .string x7, .string x8, .string x9, .string x10, .string x11, .string x12] 25))
    have m0 := HMB.out.cell 0; have m1 := HMB.out.cell 1; have m2 := HMB.out.cell 2; have m3 := HMB.out.cell 3; have m4 := HMB.out.cell 4; have m5 := HMB.out.cell 5; have m6 := HMB.out.cell 6; have m7 := HMB.out.cell 7; have m8 := HMB.out.cell 8; have m9 := HMB.out.cell 9; have m10 := HMB.out.cell 10; have m11 := HMB.out.cell 11; have m12 := HMB.out.cell 12; simp at m0 m1 m2 m3 m4 m5 m6 m7 m8 m9 m10 m11 m12
    go_enter Tryz.func28, Tryz.ntmps28
    go_wp2_with fail
    go_ret
    exact ⟨rfl, HO.out⟩
theorem right_sizes {m : Mg} (h : rightM m = true) : m.x4.size ≤ 65535 ∧ m.x5.size ≤ 65535 ∧ m.x6.size ≤ 65535 ∧ m.x7.size ≤ 65535 ∧ m.x8.size ≤ 65535 ∧ m.x9.size ≤ 65535 ∧ m.x10.size ≤ 65535 ∧ m.x11.size ≤ 65535 ∧ m.x12.size ≤ 65535 := by
  unfold rightM at h
  rw [Bool.and_eq_true, Bool.and_eq_true, decide_eq_true_eq, eqM_iff] at h
  obtain ⟨hk, hf, he⟩ := h
  rw [List.all_eq_true] at hf
  have hz : ∀ p, p ∈ textsM m → p.size ≤ 65535 := by
    intro p hp
    have h1 := hf p hp
    unfold fitW at h1
    rw [Bool.and_eq_true] at h1
    exact of_decide_eq_true h1.1
  have n0 : noT.size ≤ 65535 := by show 0 ≤ 65535; omega
  obtain ⟨k, s, r, c, x4, x5, x6, x7, x8, x9, x10, x11, x12⟩ := m
  unfold textsM at hz
  unfold onlyM at he
  simp only at he hz hk ⊢
  have hk4 : k = 1 ∨ k = 2 ∨ k = 3 ∨ k = 4 := by omega
  rcases hk4 with rfl | rfl | rfl | rfl
  all_goals
    simp at he hz
  · obtain ⟨_, _, rfl, rfl, rfl, rfl⟩ := he
    obtain ⟨h1, h2, h3, h4, h5⟩ := hz
    exact ⟨h1, h2, h3, n0, n0, n0, n0, h4, h5⟩
  · obtain ⟨_, rfl, rfl, rfl, rfl, rfl⟩ := he
    obtain ⟨h1, h2, h3, h4⟩ := hz
    exact ⟨h1, n0, n0, h2, n0, n0, n0, h3, h4⟩
  · obtain ⟨_, _, rfl, rfl, rfl, rfl, rfl, rfl, rfl⟩ := he
    obtain ⟨h1, h2⟩ := hz
    exact ⟨n0, n0, n0, n0, h1, h2, n0, n0, n0⟩
  · obtain ⟨_, rfl, rfl, rfl, rfl, rfl, rfl, rfl, rfl⟩ := he
    exact ⟨n0, n0, n0, n0, n0, n0, hz, n0, n0⟩
theorem wrap_small (n : Nat) (h : n ≤ 600000) : wrap64 (n : Int) = (n : Int) := by
  unfold wrap64
  omega
theorem heavy_right {m : Mg} (h : rightM m = true) (q : Int) : heavyV m q = decide (q < ((m.x4.size + m.x5.size + m.x6.size + m.x7.size + m.x8.size + m.x9.size + m.x10.size + m.x11.size + m.x12.size : Nat) : Int)) := by
  obtain ⟨h4, h5, h6, h7, h8, h9, h10, h11, h12⟩ := right_sizes h
  unfold heavyV
  generalize m.x4.size = a4 at *
  generalize m.x5.size = a5 at *
  generalize m.x6.size = a6 at *
  generalize m.x7.size = a7 at *
  generalize m.x8.size = a8 at *
  generalize m.x9.size = a9 at *
  generalize m.x10.size = a10 at *
  generalize m.x11.size = a11 at *
  generalize m.x12.size = a12 at *
  rw [← Int.natCast_add, wrap_small _ (by omega), ← Int.natCast_add, wrap_small _ (by omega), ← Int.natCast_add, wrap_small _ (by omega), ← Int.natCast_add, wrap_small _ (by omega), ← Int.natCast_add, wrap_small _ (by omega), ← Int.natCast_add, wrap_small _ (by omega), ← Int.natCast_add, wrap_small _ (by omega), ← Int.natCast_add, wrap_small _ (by omega)]
end
section
open Go.RowKit Go.Deep

set_option maxRecDepth 100000 in
set_option maxHeartbeats 12800000 in
theorem LastR_in (w : World) (c h eph u v q k1 k2 k3 h1 l2 wi l3 em la o1 o2 : ByteArray) (hc : c.size ≤ maxLen) (hh : h.size ≤ maxLen) (he : eph.size ≤ maxLen) (hu : u.size ≤ maxLen) (hv : v.size ≤ maxLen) (hq : q.size ≤ maxLen) (e_k1 : kdfT 1 c eph = k1) (e_k2 : kdfT 1 k1 u = k2) (e_k3 : kdfT 1 k2 v = k3) (e_h1 : hashT h eph = h1) (e_l2 : kdfT 2 k3 q = l2) (e_wi : hashT h1 l2 = wi) (e_l3 : kdfT 3 k3 q = l3) (e_em : sealN l3 ⟨#[48]⟩ wi = em) (e_la : kdfT 1 k3 q = la) (e_o1 : kdfT 1 la ⟨#[48]⟩ = o1) (e_o2 : kdfT 2 la ⟨#[48]⟩ = o2) :
    Calls Tryz.prog 45 #[.agg #[.string c, .string h], .string eph, .string u, .string v, .string q] w fun e w' => e = .returned (.tuple #[.string em, .string o1, .string o2]) ∧ Only [] w w' := by
  have z_k1 : k1.size ≤ maxLen := e_k1 ▸ kdfT_size 1 (by omega) _ _
  have z_k2 : k2.size ≤ maxLen := e_k2 ▸ kdfT_size 1 (by omega) _ _
  have z_k3 : k3.size ≤ maxLen := e_k3 ▸ kdfT_size 1 (by omega) _ _
  have z_h1 : h1.size ≤ maxLen := e_h1 ▸ hashT_size _ _
  have z_l2 : l2.size ≤ maxLen := e_l2 ▸ kdfT_size 2 (by omega) _ _
  have z_wi : wi.size ≤ maxLen := e_wi ▸ hashT_size _ _
  have z_l3 : l3.size ≤ maxLen := e_l3 ▸ kdfT_size 3 (by omega) _ _
  have z_em : em.size ≤ maxLen := e_em ▸ sealN_size _ _ _
  have z_la : la.size ≤ maxLen := e_la ▸ kdfT_size 1 (by omega) _ _
  have z_o1 : o1.size ≤ maxLen := e_o1 ▸ kdfT_size 1 (by omega) _ _
  have z_o2 : o2.size ≤ maxLen := e_o2 ▸ kdfT_size 2 (by omega) _ _
  have K_k1 := hide (fun W => KdfR1_any W c eph hc he)
  rw [e_k1] at K_k1
  unfold MakePost at K_k1
  have K_k2 := hide (fun W => KdfR1_any W k1 u z_k1 hu)
  rw [e_k2] at K_k2
  unfold MakePost at K_k2
  have K_k3 := hide (fun W => KdfR1_any W k2 v z_k2 hv)
  rw [e_k3] at K_k3
  unfold MakePost at K_k3
  have K_h1 := hide (fun W => hashR_any W h eph hh he)
  rw [e_h1] at K_h1
  unfold MakePost at K_h1
  have K_l2 := hide (fun W => KdfR2_any W k3 q z_k3 hq)
  rw [e_l2] at K_l2
  unfold MakePost at K_l2
  have K_wi := hide (fun W => hashR_any W h1 l2 z_h1 z_l2)
  rw [e_wi] at K_wi
  unfold MakePost at K_wi
  have K_l3 := hide (fun W => KdfR3_any W k3 q z_k3 hq)
  rw [e_l3] at K_l3
  unfold MakePost at K_l3
  have K_em := hide (fun W => (show Calls Tryz.prog 68 #[.int .u64 0, .string l3, .string ⟨#[48]⟩, .string wi] W (MakePost (sealN l3 ⟨#[48]⟩ wi) W) from SealR_any W 0 (by omega) l3 ⟨#[48]⟩ wi z_l3 zero_size z_wi))
  rw [e_em] at K_em
  unfold MakePost at K_em
  have K_la := hide (fun W => KdfR1_any W k3 q z_k3 hq)
  rw [e_la] at K_la
  unfold MakePost at K_la
  have K_o1 := hide (fun W => KdfR1_any W la ⟨#[48]⟩ z_la zero_size)
  rw [e_o1] at K_o1
  unfold MakePost at K_o1
  have K_o2 := hide (fun W => KdfR2_any W la ⟨#[48]⟩ z_la zero_size)
  rw [e_o2] at K_o2
  unfold MakePost at K_o2
  clear hc hh he hu hv hq z_k1 e_k1 z_k2 e_k2 z_k3 e_k3 z_h1 e_h1 z_l2 e_l2 z_wi e_wi z_l3 e_l3 z_em e_em z_la e_la z_o1 e_o1 z_o2 e_o2
  have HB := hide (Blk.new w 80 #[.string c, .string h])
  have HO := hide ((Only.refl [] w).alloc (.cells #[.string c, .string h] 80))
  go_enter Tryz.func45, Tryz.ntmps45
  go_upto_region 1 with fail
  generalize (w.alloc (.cells #[.string c, .string h] 80)) = v0 at *
  have b0 := HB.out.cell 0; have b1 := HB.out.cell 1; simp at b0 b1; have bf := HB.out.frozen
  go_wp2_with (first
    | (go_at_call 102; (with_reducible refine (K_k1.out _).mono ?_); rintro e2 x_k1 ⟨rfl, ho⟩; replace HB := hon HB ho; replace HO := htr HO ho; clear ho; (first | (clear b0 b1 bf) | skip); have b0 := HB.out.cell 0; have b1 := HB.out.cell 1; simp at b0 b1; have bf := HB.out.frozen)
    | (go_at_call 102; (with_reducible refine (K_k2.out _).mono ?_); rintro e2 x_k2 ⟨rfl, ho⟩; replace HB := hon HB ho; replace HO := htr HO ho; clear ho; (first | (clear b0 b1 bf) | skip); have b0 := HB.out.cell 0; have b1 := HB.out.cell 1; simp at b0 b1; have bf := HB.out.frozen)
    | (go_at_call 102; (with_reducible refine (K_k3.out _).mono ?_); rintro e2 x_k3 ⟨rfl, ho⟩; replace HB := hon HB ho; replace HO := htr HO ho; clear ho; (first | (clear b0 b1 bf) | skip); have b0 := HB.out.cell 0; have b1 := HB.out.cell 1; simp at b0 b1; have bf := HB.out.frozen)
    | (go_at_call 103; (with_reducible refine (K_h1.out _).mono ?_); rintro e2 x_h1 ⟨rfl, ho⟩; replace HB := hon HB ho; replace HO := htr HO ho; clear ho; (first | (clear b0 b1 bf) | skip); have b0 := HB.out.cell 0; have b1 := HB.out.cell 1; simp at b0 b1; have bf := HB.out.frozen)
    | (go_at_call 102; (with_reducible refine (K_l2.out _).mono ?_); rintro e2 x_l2 ⟨rfl, ho⟩; replace HB := hon HB ho; replace HO := htr HO ho; clear ho; (first | (clear b0 b1 bf) | skip); have b0 := HB.out.cell 0; have b1 := HB.out.cell 1; simp at b0 b1; have bf := HB.out.frozen)
    | (go_at_call 103; (with_reducible refine (K_wi.out _).mono ?_); rintro e2 x_wi ⟨rfl, ho⟩; replace HB := hon HB ho; replace HO := htr HO ho; clear ho; (first | (clear b0 b1 bf) | skip); have b0 := HB.out.cell 0; have b1 := HB.out.cell 1; simp at b0 b1; have bf := HB.out.frozen)
    | (go_at_call 102; (with_reducible refine (K_l3.out _).mono ?_); rintro e2 x_l3 ⟨rfl, ho⟩; replace HB := hon HB ho; replace HO := htr HO ho; clear ho; (first | (clear b0 b1 bf) | skip); have b0 := HB.out.cell 0; have b1 := HB.out.cell 1; simp at b0 b1; have bf := HB.out.frozen)
    | (go_at_call 68; (with_reducible refine (K_em.out _).mono ?_); rintro e2 x_em ⟨rfl, ho⟩; replace HB := hon HB ho; replace HO := htr HO ho; clear ho; (first | (clear b0 b1 bf) | skip); have b0 := HB.out.cell 0; have b1 := HB.out.cell 1; simp at b0 b1; have bf := HB.out.frozen)
    | (go_at_call 102; (with_reducible refine (K_la.out _).mono ?_); rintro e2 x_la ⟨rfl, ho⟩; replace HB := hon HB ho; replace HO := htr HO ho; clear ho; (first | (clear b0 b1 bf) | skip); have b0 := HB.out.cell 0; have b1 := HB.out.cell 1; simp at b0 b1; have bf := HB.out.frozen)
    | (go_at_call 102; (with_reducible refine (K_o1.out _).mono ?_); rintro e2 x_o1 ⟨rfl, ho⟩; replace HB := hon HB ho; replace HO := htr HO ho; clear ho; (first | (clear b0 b1 bf) | skip); have b0 := HB.out.cell 0; have b1 := HB.out.cell 1; simp at b0 b1; have bf := HB.out.frozen)
    | (go_at_call 102; (with_reducible refine (K_o2.out _).mono ?_); rintro e2 x_o2 ⟨rfl, ho⟩; replace HB := hon HB ho; replace HO := htr HO ho; clear ho; (first | (clear b0 b1 bf) | skip); have b0 := HB.out.cell 0; have b1 := HB.out.cell 1; simp at b0 b1; have bf := HB.out.frozen))
  go_ret3
  exact ⟨rfl, HO.out⟩
theorem LastR_any (w : World) (c h eph u v q : ByteArray) (hc : c.size ≤ maxLen) (hh : h.size ≤ maxLen) (he : eph.size ≤ maxLen) (hu : u.size ≤ maxLen) (hv : v.size ≤ maxLen) (hq : q.size ≤ maxLen) :
    Calls Tryz.prog 45 #[.agg #[.string c, .string h], .string eph, .string u, .string v, .string q] w fun e w' => e = .returned (.tuple #[.string (sealN (endK c eph u v q) ⟨#[48]⟩ (endW c h eph u v q)), .string (kdfT 1 (endA c eph u v q) ⟨#[48]⟩), .string (kdfT 2 (endA c eph u v q) ⟨#[48]⟩)]) ∧ Only [] w w' :=
  LastR_in w c h eph u v q _ _ _ _ _ _ _ _ _ _ _ hc hh he hu hv hq rfl rfl rfl rfl rfl rfl rfl rfl rfl rfl rfl
end
section
open Go.RowKit Go.Deep

theorem isv {x : ByteArray} (h : x.size ≤ maxLen) : ∀ W, Calls Tryz.prog 18 #[.string x] W fun e w' => e = .returned (.bool (isV x)) ∧ Only [] W w' := fun W => isR_all W x h
theorem isr {k : Int} {sn r cc : Nat} {x4 x5 x6 x7 x8 x9 x10 x11 x12 : ByteArray} (h : (Mg.mk k sn r cc x4 x5 x6 x7 x8 x9 x10 x11 x12).Fine) : ∀ W, Calls Tryz.prog 49 #[.agg #[.int .i64 k, .int .u32 (sn : Nat), .int .u32 (r : Nat), .int .u64 (cc : Nat), .string x4, .string x5, .string x6, .string x7, .string x8, .string x9, .string x10, .string x11, .string x12]] W fun e w' => e = .returned (.bool (rightM (Mg.mk k sn r cc x4 x5 x6 x7 x8 x9 x10 x11 x12))) ∧ Only [] W w' := fun W => RightR_any W (Mg.mk k sn r cc x4 x5 x6 x7 x8 x9 x10 x11 x12) h
set_option maxRecDepth 100000 in
set_option maxHeartbeats 12800000 in
theorem nf_big (w : World) (ep c h s q p y4 yc yh : ByteArray) (sd re nn : Nat) (k : Int) (sn r cc : Nat) (x4 x5 x6 x7 x8 x9 x10 x11 x12 : ByteArray) (hep : ep.size ≤ maxLen) (hc : c.size ≤ maxLen) (hh : h.size ≤ maxLen) (hs : s.size ≤ maxLen) (hq : q.size ≤ maxLen) (hp : p.size ≤ maxLen) (hy4 : y4.size ≤ maxLen) (hyc : yc.size ≤ maxLen) (hyh : yh.size ≤ maxLen) (hF : (Mg.mk k sn r cc x4 x5 x6 x7 x8 x9 x10 x11 x12).Fine) (htab : Tab w) (hb : bigB [ep, c, h, p, y4, yc, yh, s, q] = true) : Calls Tryz.prog 9 #[.agg #[.int .u32 (sd : Nat), .string ep, .string c, .string h], .agg #[.int .u32 (re : Nat), .string p, .int .u64 (nn : Nat), .string y4, .string yc, .string yh], .string s, .string q, .agg #[.int .i64 k, .int .u32 (sn : Nat), .int .u32 (r : Nat), .int .u64 (cc : Nat), .string x4, .string x5, .string x6, .string x7, .string x8, .string x9, .string x10, .string x11, .string x12]] w fun e' w' => e' = .returned (.bool true) ∧ Only [] w w' := by
  have KAW := hide (fun W h => awake10 W h)
  have KBG := hide (fun W G hG => big10_new9 W G hG ep c h p y4 yc yh s q hep hc hh hp hy4 hyc hyh hs hq)
  have KHV := hide (show ∀ W, Calls Tryz.prog 28 #[.agg #[.int .i64 k, .int .u32 (sn : Nat), .int .u32 (r : Nat), .int .u64 (cc : Nat), .string x4, .string x5, .string x6, .string x7, .string x8, .string x9, .string x10, .string x11, .string x12], .int .i64 4000] W (RetB (heavyV (Mg.mk k sn r cc x4 x5 x6 x7 x8 x9 x10 x11 x12) 4000) W) from fun W => Heavy_any (Mg.mk k sn r cc x4 x5 x6 x7 x8 x9 x10 x11 x12) 4000 W)
  unfold RetB at KBG KHV
  have HT := hide htab
  have HST := hide (((Blk.new w 72 #[.int .u32 (sd : Nat), .string ep, .string c, .string h]).alloc (.cells #[.int .u32 (re : Nat), .string p, .int .u64 (nn : Nat), .string y4, .string yc, .string yh] 84)).alloc (.cells #[.int .i64 k, .int .u32 (sn : Nat), .int .u32 (r : Nat), .int .u64 (cc : Nat), .string x4, .string x5, .string x6, .string x7, .string x8, .string x9, .string x10, .string x11, .string x12] 25))
  have HHD := hide ((Blk.new (w.alloc (.cells #[.int .u32 (sd : Nat), .string ep, .string c, .string h] 72)) 84 #[.int .u32 (re : Nat), .string p, .int .u64 (nn : Nat), .string y4, .string yc, .string yh]).alloc (.cells #[.int .i64 k, .int .u32 (sn : Nat), .int .u32 (r : Nat), .int .u64 (cc : Nat), .string x4, .string x5, .string x6, .string x7, .string x8, .string x9, .string x10, .string x11, .string x12] 25))
  have HMB := hide (Blk.new ((w.alloc (.cells #[.int .u32 (sd : Nat), .string ep, .string c, .string h] 72)).alloc (.cells #[.int .u32 (re : Nat), .string p, .int .u64 (nn : Nat), .string y4, .string yc, .string yh] 84)) 25 #[.int .i64 k, .int .u32 (sn : Nat), .int .u32 (r : Nat), .int .u64 (cc : Nat), .string x4, .string x5, .string x6, .string x7, .string x8, .string x9, .string x10, .string x11, .string x12])
  rw [World.size_alloc] at HHD
  rw [World.size_alloc, World.size_alloc] at HMB
  have HO := hide ((((Only.refl [] w).alloc (.cells #[.int .u32 (sd : Nat), .string ep, .string c, .string h] 72)).alloc (.cells #[.int .u32 (re : Nat), .string p, .int .u64 (nn : Nat), .string y4, .string yc, .string yh] 84)).alloc (.cells #[.int .i64 k, .int .u32 (sn : Nat), .int .u32 (r : Nat), .int .u64 (cc : Nat), .string x4, .string x5, .string x6, .string x7, .string x8, .string x9, .string x10, .string x11, .string x12] 25))
  rw [hb] at KBG
  clear hb KHV
  clear hep hc hh hs hq hp hy4 hyc hyh hF htab
  go_enter Tryz.func9, Tryz.ntmps9
  go_upto_region 1 with fail
  generalize (((w.alloc (.cells #[.int .u32 (sd : Nat), .string ep, .string c, .string h] 72)).alloc (.cells #[.int .u32 (re : Nat), .string p, .int .u64 (nn : Nat), .string y4, .string yc, .string yh] 84)).alloc (.cells #[.int .i64 k, .int .u32 (sn : Nat), .int .u32 (r : Nat), .int .u64 (cc : Nat), .string x4, .string x5, .string x6, .string x7, .string x8, .string x9, .string x10, .string x11, .string x12] 25)) = v0 at *
  go_wp2_with (first
    | (go_at_call 36; refine (KAW.out _ (HT.out.only HO.out (by simp))).mono ?_; rintro e2 wa ⟨rfl, ho⟩; replace HST := hon HST ho; replace HHD := hon HHD ho; replace HMB := hon HMB ho; replace HO := htr HO ho; clear ho; obtain ⟨b0, b1, b2, b3⟩ := cells4 HST.out; obtain ⟨d0, d1, d2, d3, d4, d5⟩ := cells6 HHD.out; obtain ⟨m0, m1, m2, m3, m4, m5, m6, m7, m8, m9, m10, m11, m12⟩ := cells13 HMB.out)
    | (go_at_call 37; (with_reducible refine (KBG.out _ _ rfl).mono ?_); rintro e2 wg ⟨rfl, ho⟩; replace HST := hon HST ho; replace HHD := hon HHD ho; replace HMB := hon HMB ho; replace HO := htr HO ho; clear ho; (try clear b0 b1 b2 b3 d0 d1 d2 d3 d4 d5 m0 m1 m2 m3 m4 m5 m6 m7 m8 m9 m10 m11 m12); obtain ⟨b0, b1, b2, b3⟩ := cells4 HST.out; obtain ⟨d0, d1, d2, d3, d4, d5⟩ := cells6 HHD.out; obtain ⟨m0, m1, m2, m3, m4, m5, m6, m7, m8, m9, m10, m11, m12⟩ := cells13 HMB.out))
  go_ret
  exact ⟨rfl, HO.out⟩
set_option maxRecDepth 100000 in
set_option maxHeartbeats 12800000 in
theorem nf_heavy (w : World) (ep c h s q p y4 yc yh : ByteArray) (sd re nn : Nat) (k : Int) (sn r cc : Nat) (x4 x5 x6 x7 x8 x9 x10 x11 x12 : ByteArray) (hep : ep.size ≤ maxLen) (hc : c.size ≤ maxLen) (hh : h.size ≤ maxLen) (hs : s.size ≤ maxLen) (hq : q.size ≤ maxLen) (hp : p.size ≤ maxLen) (hy4 : y4.size ≤ maxLen) (hyc : yc.size ≤ maxLen) (hyh : yh.size ≤ maxLen) (hF : (Mg.mk k sn r cc x4 x5 x6 x7 x8 x9 x10 x11 x12).Fine) (htab : Tab w) (hb : bigB [ep, c, h, p, y4, yc, yh, s, q] = false) (hv : heavyV (Mg.mk k sn r cc x4 x5 x6 x7 x8 x9 x10 x11 x12) 4000 = true) : Calls Tryz.prog 9 #[.agg #[.int .u32 (sd : Nat), .string ep, .string c, .string h], .agg #[.int .u32 (re : Nat), .string p, .int .u64 (nn : Nat), .string y4, .string yc, .string yh], .string s, .string q, .agg #[.int .i64 k, .int .u32 (sn : Nat), .int .u32 (r : Nat), .int .u64 (cc : Nat), .string x4, .string x5, .string x6, .string x7, .string x8, .string x9, .string x10, .string x11, .string x12]] w fun e' w' => e' = .returned (.bool true) ∧ Only [] w w' := by
  have KAW := hide (fun W h => awake10 W h)
  have KBG := hide (fun W G hG => big10_new9 W G hG ep c h p y4 yc yh s q hep hc hh hp hy4 hyc hyh hs hq)
  have KHV := hide (show ∀ W, Calls Tryz.prog 28 #[.agg #[.int .i64 k, .int .u32 (sn : Nat), .int .u32 (r : Nat), .int .u64 (cc : Nat), .string x4, .string x5, .string x6, .string x7, .string x8, .string x9, .string x10, .string x11, .string x12], .int .i64 4000] W (RetB (heavyV (Mg.mk k sn r cc x4 x5 x6 x7 x8 x9 x10 x11 x12) 4000) W) from fun W => Heavy_any (Mg.mk k sn r cc x4 x5 x6 x7 x8 x9 x10 x11 x12) 4000 W)
  unfold RetB at KBG KHV
  have HT := hide htab
  have HST := hide (((Blk.new w 72 #[.int .u32 (sd : Nat), .string ep, .string c, .string h]).alloc (.cells #[.int .u32 (re : Nat), .string p, .int .u64 (nn : Nat), .string y4, .string yc, .string yh] 84)).alloc (.cells #[.int .i64 k, .int .u32 (sn : Nat), .int .u32 (r : Nat), .int .u64 (cc : Nat), .string x4, .string x5, .string x6, .string x7, .string x8, .string x9, .string x10, .string x11, .string x12] 25))
  have HHD := hide ((Blk.new (w.alloc (.cells #[.int .u32 (sd : Nat), .string ep, .string c, .string h] 72)) 84 #[.int .u32 (re : Nat), .string p, .int .u64 (nn : Nat), .string y4, .string yc, .string yh]).alloc (.cells #[.int .i64 k, .int .u32 (sn : Nat), .int .u32 (r : Nat), .int .u64 (cc : Nat), .string x4, .string x5, .string x6, .string x7, .string x8, .string x9, .string x10, .string x11, .string x12] 25))
  have HMB := hide (Blk.new ((w.alloc (.cells #[.int .u32 (sd : Nat), .string ep, .string c, .string h] 72)).alloc (.cells #[.int .u32 (re : Nat), .string p, .int .u64 (nn : Nat), .string y4, .string yc, .string yh] 84)) 25 #[.int .i64 k, .int .u32 (sn : Nat), .int .u32 (r : Nat), .int .u64 (cc : Nat), .string x4, .string x5, .string x6, .string x7, .string x8, .string x9, .string x10, .string x11, .string x12])
  rw [World.size_alloc] at HHD
  rw [World.size_alloc, World.size_alloc] at HMB
  have HO := hide ((((Only.refl [] w).alloc (.cells #[.int .u32 (sd : Nat), .string ep, .string c, .string h] 72)).alloc (.cells #[.int .u32 (re : Nat), .string p, .int .u64 (nn : Nat), .string y4, .string yc, .string yh] 84)).alloc (.cells #[.int .i64 k, .int .u32 (sn : Nat), .int .u32 (r : Nat), .int .u64 (cc : Nat), .string x4, .string x5, .string x6, .string x7, .string x8, .string x9, .string x10, .string x11, .string x12] 25))
  rw [hb] at KBG
  rw [hv] at KHV
  clear hb hv
  clear hep hc hh hs hq hp hy4 hyc hyh hF htab
  go_enter Tryz.func9, Tryz.ntmps9
  go_upto_region 1 with fail
  generalize (((w.alloc (.cells #[.int .u32 (sd : Nat), .string ep, .string c, .string h] 72)).alloc (.cells #[.int .u32 (re : Nat), .string p, .int .u64 (nn : Nat), .string y4, .string yc, .string yh] 84)).alloc (.cells #[.int .i64 k, .int .u32 (sn : Nat), .int .u32 (r : Nat), .int .u64 (cc : Nat), .string x4, .string x5, .string x6, .string x7, .string x8, .string x9, .string x10, .string x11, .string x12] 25)) = v0 at *
  go_wp2_with (first
    | (go_at_call 36; refine (KAW.out _ (HT.out.only HO.out (by simp))).mono ?_; rintro e2 wa ⟨rfl, ho⟩; replace HST := hon HST ho; replace HHD := hon HHD ho; replace HMB := hon HMB ho; replace HO := htr HO ho; clear ho; obtain ⟨b0, b1, b2, b3⟩ := cells4 HST.out; obtain ⟨d0, d1, d2, d3, d4, d5⟩ := cells6 HHD.out; obtain ⟨m0, m1, m2, m3, m4, m5, m6, m7, m8, m9, m10, m11, m12⟩ := cells13 HMB.out)
    | (go_at_call 37; (with_reducible refine (KBG.out _ _ rfl).mono ?_); rintro e2 wg ⟨rfl, ho⟩; replace HST := hon HST ho; replace HHD := hon HHD ho; replace HMB := hon HMB ho; replace HO := htr HO ho; clear ho; (try clear b0 b1 b2 b3 d0 d1 d2 d3 d4 d5 m0 m1 m2 m3 m4 m5 m6 m7 m8 m9 m10 m11 m12); obtain ⟨b0, b1, b2, b3⟩ := cells4 HST.out; obtain ⟨d0, d1, d2, d3, d4, d5⟩ := cells6 HHD.out; obtain ⟨m0, m1, m2, m3, m4, m5, m6, m7, m8, m9, m10, m11, m12⟩ := cells13 HMB.out)
    | (go_at_call 28; (with_reducible refine (KHV.out _).mono ?_); rintro e2 wh ⟨rfl, ho⟩; replace HST := hon HST ho; replace HHD := hon HHD ho; replace HMB := hon HMB ho; replace HO := htr HO ho; clear ho; (try clear b0 b1 b2 b3 d0 d1 d2 d3 d4 d5 m0 m1 m2 m3 m4 m5 m6 m7 m8 m9 m10 m11 m12); obtain ⟨b0, b1, b2, b3⟩ := cells4 HST.out; obtain ⟨d0, d1, d2, d3, d4, d5⟩ := cells6 HHD.out; obtain ⟨m0, m1, m2, m3, m4, m5, m6, m7, m8, m9, m10, m11, m12⟩ := cells13 HMB.out))
  go_ret
  exact ⟨rfl, HO.out⟩
end
end Go.Proofs.YtfipdjlalfpbnaaGreatDoor

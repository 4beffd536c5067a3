/-
  Walks and plain words (texts Jd, Mk, Tw, Ag, La, Lm, Ws0). No condition beyond those that each theorem states.
-/
import Derived.Handy
import Derived.Test.YtcokjoidpnfjhaaGreatDoorChecked
import Derived.Test.YtcokjoidpnfjhaaGreatDoorA17
namespace Go.Proofs.YtcokjoidpnfjhaaGreatDoor
section
open Go.RowKit Go.Deep

theorem hb_cell {w W : World} {g : Nat} (h : Below w.heap.size w W) (hg : g < w.heap.size) (i : Nat) : W.cell? ⟨g, i, none⟩ = w.cell? ⟨g, i, none⟩ := h.cell (p := ⟨g, i, none⟩) hg
theorem dlen (a : ByteArray) : a.data.toList.length = a.size := rfl
theorem al_ : ∀ (W : World) (n : Nat) (o : Obj), (W.drewN n).alloc o = (W.alloc o).drewN n := fun _ _ _ => rfl

set_option maxRecDepth 100000 in
set_option maxHeartbeats 6400000 in
theorem join_dh (n : Nat) (bv lv : Value) (b : List UInt8) (p q : ByteArray) (hsz : p.size + q.size ≤ 900000) (w : World) (hv : Rd w [] lv (strs [p, q])) :
    Calls Tryz.prog 188 #[.int .u8 ((letU 6).toNat : Nat), .int .i64 6, .int .u64 n, bv, lv] w (StrPost (txtL 6 n b (sortV 6 [p, q])) w) := by
  obtain ⟨A, cap, rfl, hc1, hc2⟩ := hv.form
  unfold maxLen at hc2
  obtain ⟨g, o, rfl, _, hcell⟩ := rd_strs hv (by simp)
  have hg : g < w.heap.size := by have := World.block_lt_of_cell? w _ (hcell 0 (by simp)); simpa using this
  have HD0 := hide (show w.cell? ⟨g, o, none⟩ = some (.string p) from hcell 0 (by simp))
  have HD1 := hide (show w.cell? ⟨g, o + 1, none⟩ = some (.string q) from hcell 1 (by simp))
  have HSZ := hide hsz
  have HG := hide hg
  have HB := hide (fresh_bc w)
  have HC := hide (show Below w.heap.size w (w.alloc (.cells #[.pointer none, .slice none 0 0] 299)) from below_of_only ((Only.refl [] w).alloc _) (Nat.le_refl _))
  have d0 := (hb_cell HC.out HG.out o).trans HD0.out
  have d1 := (hb_cell HC.out HG.out (o + 1)).trans HD1.out
  have HNB := hide (show numberedV 6 = false by decide)
  have al := al_
  rw [show (strs [p, q]).length = 2 from rfl] at hc1 ⊢
  clear hv hcell hsz hg
  rcases Bool.eq_false_or_eq_true (gtB p q) with hq | hq
  · have hq2 := hq
    have HTX := hide (show txtL 6 n b (sortV 6 [p, q]) = [letU 6] ++ [40] ++ q.data.toList ++ [44] ++ p.data.toList ++ [41] by rw [show sortV 6 [p, q] = [q, p] by unfold sortV; rw [if_pos (show wrong 6 [p, q] from ⟨rfl, rfl, hq2⟩)]; rfl, txt_head 6 n b _ (by omega) (by intro h; cases h)]; simp [headL, HNB.out, joinL])
    unfold gtB at hq
    clear hq2
    go_enter Tryz.func188, Tryz.ntmps188
    go_wp2_with (first
      | (go_at_call 230; refine (write_byte3 w.heap.size w.heap.size _ _ _ HB.out (by rw [bc_len]; have := HSZ.out; simp only [List.length_append, List.length_cons, List.length_nil]; omega) HC.out.size).mono ?_; rintro e w1 ⟨rfl, h1, hb1, hh1⟩; have HC := hide (HC.out.trans hb1); (first | (have HB := hide (isb_eq h1 (bc_push _ (letU 6)))) | (have HB := hide (isb_eq h1 (bc_push _ 40)))); clear d0 d1; have d0 := (hb_cell HC.out HG.out o).trans HD0.out; have d1 := (hb_cell HC.out HG.out (o + 1)).trans HD1.out; clear h1 hb1 hh1)
      | (go_at_call 185; refine (numbered_any _ _).mono ?_; rintro e w' ⟨rfl, rfl⟩; rw [HNB.out]))
    go_quiet (fail)
    go_wp2_with fail
    go_region
    go_wp2_with fail
    have HB := hide (bd_only HB.out (((Only.refl [] w1).alloc (.cells #[.string q, .string p] 9)).drewN (nq + 1)))
    have HC := hide (below_drewN (HC.out.alloc (by have := HC.out.size; omega) (.cells #[.string q, .string p] 9)) (nq + 1))
    have HK := hide ((Blk.new w1 9 #[.string q, .string p]).drewN (nq + 1))
    generalize (w1.alloc (.cells #[.string q, .string p] 9)).drewN (nq + 1) = wq at *
    generalize w1.heap.size = G at *
    have HCE := hide (show ∀ W, Held wq W → Below w.heap.size w W → W.cell? ⟨G, 0, none⟩ = some (.string q) ∧ W.cell? ⟨G, 1, none⟩ = some (.string p) from fun W hh _ => ⟨(hh _ _ _ (by decide) (by decide) HK.out).cell 0, (hh _ _ _ (by decide) (by decide) HK.out).cell 1⟩)
    have HH := hide (held_refl wq)
    clear d0 d1
    obtain ⟨c0, c1⟩ := HCE.out _ HH.out HC.out
    refine wp_loop_rounds 3 ?_
    rw [rounds_succ]
    go_wp2_with (first
      | (go_at_call 203; refine (write_string3 w.heap.size w.heap.size _ _ _ HB.out (by rw [bc_len]; have := HSZ.out; simp only [List.length_append, List.length_cons, List.length_nil]; omega) HC.out.size).mono ?_; rintro e w3 ⟨rfl, h1, hb1, hh1⟩; have HC := hide (HC.out.trans hb1); have HB := hide (isb_eq h1 (bc_bytes _ _)); have HH := hide (HH.out.trans hh1); clear c0 c1; obtain ⟨c0, c1⟩ := HCE.out _ HH.out HC.out; clear h1 hb1 hh1))
    rw [rounds_succ]
    go_wp2_with (first
      | (go_at_call 230; refine (write_byte3 w.heap.size w.heap.size _ _ _ HB.out (by rw [bc_len]; have := HSZ.out; simp only [List.length_append, List.length_cons, List.length_nil, dlen]; omega) HC.out.size).mono ?_; rintro e w1 ⟨rfl, h1, hb1, hh1⟩; have HC := hide (HC.out.trans hb1); (first | (have HB := hide (isb_eq h1 (bc_push _ 44)))); have HH := hide (HH.out.trans hh1); clear c0 c1; obtain ⟨c0, c1⟩ := HCE.out _ HH.out HC.out; clear h1 hb1 hh1)
      | (go_at_call 203; refine (write_string3 w.heap.size w.heap.size _ _ _ HB.out (by rw [bc_len]; have := HSZ.out; simp only [List.length_append, List.length_cons, List.length_nil, dlen]; omega) HC.out.size).mono ?_; rintro e w3 ⟨rfl, h1, hb1, hh1⟩; have HC := hide (HC.out.trans hb1); have HB := hide (isb_eq h1 (bc_bytes _ _)); have HH := hide (HH.out.trans hh1); clear c0 c1; obtain ⟨c0, c1⟩ := HCE.out _ HH.out HC.out; clear h1 hb1 hh1))
    rw [rounds_succ]
    go_wp2_with (first
      | (go_at_call 230; refine (write_byte3 w.heap.size w.heap.size _ _ _ HB.out (by rw [bc_len]; have := HSZ.out; simp only [List.length_append, List.length_cons, List.length_nil, dlen]; omega) HC.out.size).mono ?_; rintro e w1 ⟨rfl, h1, hb1, hh1⟩; have HC := hide (HC.out.trans hb1); (first | (have HB := hide (isb_eq h1 (bc_push _ 41)))); have HH := hide (HH.out.trans hh1); clear c0 c1; obtain ⟨c0, c1⟩ := HCE.out _ HH.out HC.out; clear h1 hb1 hh1)
      | (go_at_call 204; refine (Tryz.Builder_String_any w.heap.size w.heap.size _ _ HB.out HC.out.size).mono ?_; rintro e w4 ⟨rfl, hb1⟩; have HC := hide (HC.out.trans hb1); clear hb1))
    go_ret
    exact strpost (by rw [HTX.out]; simp) (only_of_below HC.out)
  · have hq2 := hq
    have HTX := hide (show txtL 6 n b (sortV 6 [p, q]) = [letU 6] ++ [40] ++ p.data.toList ++ [44] ++ q.data.toList ++ [41] by rw [show sortV 6 [p, q] = [p, q] by unfold sortV; rw [if_neg (show ¬ wrong 6 [p, q] by rintro ⟨_, _, h⟩; rw [show gtB ([p, q].getD 0 ByteArray.empty) ([p, q].getD 1 ByteArray.empty) = gtB p q from rfl, hq2] at h; cases h)], txt_head 6 n b _ (by omega) (by intro h; cases h)]; simp [headL, HNB.out, joinL])
    unfold gtB at hq
    clear hq2
    go_enter Tryz.func188, Tryz.ntmps188
    go_wp2_with (first
      | (go_at_call 230; refine (write_byte3 w.heap.size w.heap.size _ _ _ HB.out (by rw [bc_len]; have := HSZ.out; simp only [List.length_append, List.length_cons, List.length_nil]; omega) HC.out.size).mono ?_; rintro e w1 ⟨rfl, h1, hb1, hh1⟩; have HC := hide (HC.out.trans hb1); (first | (have HB := hide (isb_eq h1 (bc_push _ (letU 6)))) | (have HB := hide (isb_eq h1 (bc_push _ 40)))); clear d0 d1; have d0 := (hb_cell HC.out HG.out o).trans HD0.out; have d1 := (hb_cell HC.out HG.out (o + 1)).trans HD1.out; clear h1 hb1 hh1)
      | (go_at_call 185; refine (numbered_any _ _).mono ?_; rintro e w' ⟨rfl, rfl⟩; rw [HNB.out]))
    go_quiet (fail)
    go_wp2_with fail
    have HB := hide (bd_only HB.out ((Only.refl [] w1).drewN nq))
    have HC := hide (below_drewN HC.out nq)
    generalize w1.drewN nq = wq at *
    have HCE := hide (show ∀ W, Held wq W → Below w.heap.size w W → W.cell? ⟨g, o, none⟩ = some (.string p) ∧ W.cell? ⟨g, o + 1, none⟩ = some (.string q) from fun W _ hb => ⟨(hb_cell hb HG.out o).trans HD0.out, (hb_cell hb HG.out (o + 1)).trans HD1.out⟩)
    have HH := hide (held_refl wq)
    clear d0 d1
    obtain ⟨c0, c1⟩ := HCE.out _ HH.out HC.out
    refine wp_loop_rounds 3 ?_
    rw [rounds_succ]
    go_wp2_with (first
      | (go_at_call 203; refine (write_string3 w.heap.size w.heap.size _ _ _ HB.out (by rw [bc_len]; have := HSZ.out; simp only [List.length_append, List.length_cons, List.length_nil]; omega) HC.out.size).mono ?_; rintro e w3 ⟨rfl, h1, hb1, hh1⟩; have HC := hide (HC.out.trans hb1); have HB := hide (isb_eq h1 (bc_bytes _ _)); have HH := hide (HH.out.trans hh1); clear c0 c1; obtain ⟨c0, c1⟩ := HCE.out _ HH.out HC.out; clear h1 hb1 hh1))
    rw [rounds_succ]
    go_wp2_with (first
      | (go_at_call 230; refine (write_byte3 w.heap.size w.heap.size _ _ _ HB.out (by rw [bc_len]; have := HSZ.out; simp only [List.length_append, List.length_cons, List.length_nil, dlen]; omega) HC.out.size).mono ?_; rintro e w1 ⟨rfl, h1, hb1, hh1⟩; have HC := hide (HC.out.trans hb1); (first | (have HB := hide (isb_eq h1 (bc_push _ 44)))); have HH := hide (HH.out.trans hh1); clear c0 c1; obtain ⟨c0, c1⟩ := HCE.out _ HH.out HC.out; clear h1 hb1 hh1)
      | (go_at_call 203; refine (write_string3 w.heap.size w.heap.size _ _ _ HB.out (by rw [bc_len]; have := HSZ.out; simp only [List.length_append, List.length_cons, List.length_nil, dlen]; omega) HC.out.size).mono ?_; rintro e w3 ⟨rfl, h1, hb1, hh1⟩; have HC := hide (HC.out.trans hb1); have HB := hide (isb_eq h1 (bc_bytes _ _)); have HH := hide (HH.out.trans hh1); clear c0 c1; obtain ⟨c0, c1⟩ := HCE.out _ HH.out HC.out; clear h1 hb1 hh1))
    rw [rounds_succ]
    go_wp2_with (first
      | (go_at_call 230; refine (write_byte3 w.heap.size w.heap.size _ _ _ HB.out (by rw [bc_len]; have := HSZ.out; simp only [List.length_append, List.length_cons, List.length_nil, dlen]; omega) HC.out.size).mono ?_; rintro e w1 ⟨rfl, h1, hb1, hh1⟩; have HC := hide (HC.out.trans hb1); (first | (have HB := hide (isb_eq h1 (bc_push _ 41)))); have HH := hide (HH.out.trans hh1); clear c0 c1; obtain ⟨c0, c1⟩ := HCE.out _ HH.out HC.out; clear h1 hb1 hh1)
      | (go_at_call 204; refine (Tryz.Builder_String_any w.heap.size w.heap.size _ _ HB.out HC.out.size).mono ?_; rintro e w4 ⟨rfl, hb1⟩; have HC := hide (HC.out.trans hb1); clear hb1))
    go_ret
    exact strpost (by rw [HTX.out]; simp) (only_of_below HC.out)
end
section
open Go.RowKit Go.Deep

def MakePost (r : ByteArray) (w : World) (e : Ending) (w' : World) : Prop := e = .returned (.string r) ∧ Only [] w w'
theorem makepost {r s : ByteArray} {w w' : World} (h : r = s) (ho : Only [] w w') : MakePost r w (.returned (.string s)) w' := by subst h; exact ⟨rfl, ho⟩
theorem fits_num {k : Int} (h5 : 5 ≤ k) {l : List ByteArray} (hf : fitsV k l.length = true) (hn : numberedV k = true) : l ≠ [] := by
  rintro rfl
  have h : k = 8 ∨ k = 10 := by
    simp only [numberedV, Bool.or_eq_true, beq_iff_eq] at hn
    omega
  rcases h with rfl | rfl <;> simp [fitsV, leastV, mostV] at hf
theorem fits_six {l : List ByteArray} (hf : fitsV 6 l.length = true) : ∃ p q, l = [p, q] := by
  have hl : l.length = 2 := by
    simp only [fitsV, leastV, mostV] at hf
    simp at hf
    omega
  match l, hl with
  | [a, b], _ => exact ⟨a, b, rfl⟩

/-- join, at what Make gives it. -/
theorem join_all (k : Int) (hr : 1 ≤ k ∧ k ≤ 11) (n : Nat) (hn : n < 18446744073709551616) (bv lv : Value) (b : List UInt8) (l : List ByteArray) (hf : fitsV k l.length = true) (hs : sumL l ≤ 65536) (h4 : k = 4 → b.length ≤ 65536) (w : World)
    (hb : Rd w [] bv (ints .u8 (byts b))) (hv : Rd w [] lv (strs l)) (htab : Tab w) :
    Calls Tryz.prog 188 #[.int .u8 ((letU k).toNat : Nat), .int .i64 k, .int .u64 n, bv, lv] w (StrPost (txtL k n b (sortV k l)) w) := by
  have hj := join_le l
  by_cases hk : k ≤ 4
  · rw [sort_not6 (by omega)]
    exact join_leaf k hr.1 hk n hn bv lv b l w (fun h => ⟨by have := h4 h; omega, hb⟩) htab
  · by_cases h6 : k = 6
    · subst h6
      obtain ⟨p, q, rfl⟩ := fits_six hf
      simp only [sumL] at hs
      exact join_dh n bv lv b p q (by omega) w hv
    · rw [sort_not6 h6]
      exact join_gen k (by omega) hr.2 h6 n hn bv lv b l (fits_num (by omega) hf) (by omega) w hv htab

set_option maxRecDepth 100000 in
set_option maxHeartbeats 12800000 in
theorem Make_any (k : Int) (hk : (Lit.int .i64 k).wf = true) (n : Nat) (hn : n < 18446744073709551616) (bv lv : Value) (b : List UInt8) (l : List ByteArray) (hsz : ∀ p ∈ l, p.size ≤ maxLen) (w : World)
    (hb : Rd w [] bv (ints .u8 (byts b))) (hv : Rd w [] lv (strs l)) (htab : Tab w) :
    Calls Tryz.prog 122 #[.int .i64 k, .int .u64 n, bv, lv] w (MakePost (makeV k n b l) w) := by
  obtain ⟨A, cap, rfl, hc1, hc2⟩ := hv.form
  obtain ⟨A', cap', rfl, hc1', hc2'⟩ := hb.formb
  unfold maxLen at hc2 hc2' hsz
  rw [strs_length] at hv hc1 ⊢
  by_cases hr : 1 ≤ k ∧ k ≤ 11
  case neg =>
    have HM := hide (make_kind (n := n) (b := b) (l := l) hr)
    have e0 : (((letU k).toNat : Nat) : Int) = 0 := by rw [let_zero hr]; rfl
    have HLT := hide (show ∀ W, Calls Tryz.prog 184 #[.int .i64 k] W fun e w' => e = .returned (.int .u8 0) ∧ Only [] W w' from fun W => by have h := letter_of k hk W; rw [e0] at h; exact h)
    clear hb hv htab hk hr e0 hsz hn
    go_enter Tryz.func122, Tryz.ntmps122
    go_wp2_with (first | (go_at_call 184; refine (HLT.out _).mono ?_; rintro e w1 ⟨rfl, ho⟩; have HC := hide ho; clear ho))
    go_ret
    exact makepost HM.out HC.out
  have HR := hide hr
  have hlp := let_pos hr
  have HLT := hide (letter_of k hk)
  have HJ := hide (fun hf hs h4 W (ho : Only [] w W) => join_all k hr n hn _ _ b l hf hs h4 W (hb.only ho (by simp)) (hv.only ho (by simp)) (htab.only ho (by simp)))
  unfold StrPost at HJ
  obtain ⟨c, hcd⟩ : ∃ c : Int, c = ((letU k).toNat : Nat) := ⟨_, rfl⟩
  have hc0 : (c == 0) = false := by rw [beq_eq_false_iff_ne, hcd]; exact hlp
  rw [← hcd] at HLT HJ
  obtain ⟨m, hm⟩ : ∃ m, m = l.length := ⟨_, rfl⟩
  have HM := hide hm
  rw [← hm] at hv hc1 HJ ⊢
  have HV := hide hv
  have HSZ := hide hsz
  have hkw := hk
  clear hb hv htab hr hk hsz hn hlp hcd hm
  by_cases ha : numberedV k = true ∧ allowedV k n = false
  · obtain ⟨hnb, hal⟩ := ha
    have HMK := hide (make_allow (b := b) (l := l) hnb hal)
    have HNB := hide hnb
    have HAL := hide hal
    clear hnb hal
    go_enter Tryz.func122, Tryz.ntmps122
    go_wp2_with (first | (go_at_call 184; refine (HLT.out _).mono ?_; rintro e w1 ⟨rfl, ho⟩; have HC := hide ho; clear ho) | (go_at_call 185; refine (numbered_any _ _).mono ?_; rintro e w2 ⟨rfl, rfl⟩; rw [HNB.out]) | (go_at_call 186; refine (allowed_any _ _ _).mono ?_; rintro e w2 ⟨rfl, rfl⟩; rw [HAL.out]))
    go_ret
    exact makepost HMK.out HC.out
  have HALW := hide (show numberedV k = true → allowedV k n = true by
    intro h
    cases h2 : allowedV k n with
    | true => rfl
    | false => exact absurd ⟨h, h2⟩ ha)
  clear ha
  cases hft : fitsV k m with
  | false =>
    have HMK := hide (make_fits (n := n) (b := b) (l := l) (k := k) (by rw [← HM.out]; exact hft))
    have HFT := hide hft
    cases hnb : numberedV k with
    | true =>
      have HNB := hide hnb
      have HAL := hide (HALW.out hnb)
      clear hnb hft
      go_enter Tryz.func122, Tryz.ntmps122
      go_wp2_with (first | (go_at_call 184; refine (HLT.out _).mono ?_; rintro e w1 ⟨rfl, ho⟩; have HC := hide ho; clear ho) | (go_at_call 185; refine (numbered_any _ _).mono ?_; rintro e w2 ⟨rfl, rfl⟩; rw [HNB.out]) | (go_at_call 186; refine (allowed_any _ _ _).mono ?_; rintro e w2 ⟨rfl, rfl⟩; rw [HAL.out]) | (go_at_call 187; refine (fits_any _ _ _).mono ?_; rintro e w2 ⟨rfl, rfl⟩; rw [HFT.out]))
      go_ret
      exact makepost HMK.out HC.out
    | false =>
      have HNB := hide hnb
      clear hnb hft
      go_enter Tryz.func122, Tryz.ntmps122
      go_wp2_with (first | (go_at_call 184; refine (HLT.out _).mono ?_; rintro e w1 ⟨rfl, ho⟩; have HC := hide ho; clear ho) | (go_at_call 185; refine (numbered_any _ _).mono ?_; rintro e w2 ⟨rfl, rfl⟩; rw [HNB.out]) | (go_at_call 187; refine (fits_any _ _ _).mono ?_; rintro e w2 ⟨rfl, rfl⟩; rw [HFT.out]))
      go_ret
      exact makepost HMK.out HC.out
  | true =>
    have HFT := hide hft
    clear hft
    by_cases hbg : ∃ i, i < l.length ∧ 65536 < (l.getD i ByteArray.empty).size
    · obtain ⟨i0, hi0, hbg⟩ := hbg
      have hz0 : kindT (l.getD i0 ByteArray.empty) = 0 := by rw [kind_zero]; unfold parseV; rw [if_pos hbg]; rfl
      have HMK := hide (make_part (k := k) (n := n) (b := b) hi0 hz0)
      have HI0 := hide (show i0 < m by rw [HM.out]; exact hi0)
      have HZ0 := hide hz0
      have hk4 : (k == 4) = false := by
        rw [beq_eq_false_iff_ne]
        intro e
        have h := (fits4 (k := k) (by omega) (by omega) l).1 (by rw [← HM.out]; exact HFT.out)
        rw [h] at hi0
        exact absurd hi0 (Nat.not_lt_zero _)
      clear hz0 hi0 hbg
      cases hnb : numberedV k
      all_goals
        have HNB := hide hnb
        first | (have HAL := hide (HALW.out hnb)) | skip
        clear hnb
        go_enter Tryz.func122, Tryz.ntmps122
        go_wp2_with (first | (go_at_call 184; refine (HLT.out _).mono ?_; rintro e w1 ⟨rfl, ho⟩; have HC := hide ho; clear ho) | (go_at_call 185; refine (numbered_any _ _).mono ?_; rintro e w2 ⟨rfl, rfl⟩; rw [HNB.out]) | (go_at_call 186; refine (allowed_any _ _ _).mono ?_; rintro e w2 ⟨rfl, rfl⟩; rw [HAL.out]) | (go_at_call 187; refine (fits_any _ _ _).mono ?_; rintro e w2 ⟨rfl, rfl⟩; rw [HFT.out]))
        go_loopw [39, 10] (fun i s wr => ∃ (j : Nat) (x : Int), j ≤ m ∧ i = .int .i64 j ∧ s = .int .i64 x ∧ Hid (Only [] w wr)) (fun i _ _ => m - (intOf i).toNat)
        case atStart => exact ⟨0, 0, Nat.zero_le _, rfl, rfl, HC⟩
        case round =>
          clear HC
          obtain ⟨j, x, hj, rfl, rfl, HC⟩ := hrel
          by_cases hlt : j < m
          · have hltI : (j : Int) < m := by omega
            have hjl : j < l.length := by rw [← HM.out]; exact hlt
            obtain ⟨g, o, rfl, _, hg, hcell⟩ := (HV.out.only HC.out (by simp)).at_.2.2.2 j (.string (l.getD j ByteArray.empty)) (by simp [strs, List.getElem?_eq_getElem hjl])
            generalize l.getD j ByteArray.empty = part at *
            clear hjl
            go_wp2_with fail
            · go_ret
              exact makepost HMK.out HC.out
            · go_roundw
              case rel => exact ⟨j + 1, _, by omega, by go_num, rfl, HC⟩
              case measure => simp [intOf]; omega
          · have hge : ¬ (j : Int) < m := by omega
            clear hlt hj
            go_wp2_with fail
            go_loopw [60] (fun i wr => ∃ j : Nat, j ≤ m ∧ i = .int .i64 j ∧ Hid (∀ i, i < j → kindT (l.getD i ByteArray.empty) ≠ 0) ∧ Hid (Only [] w wr)) (fun i _ => m - (intOf i).toNat)
            case atStart => exact ⟨0, Nat.zero_le _, rfl, hide (fun i h => absurd h (Nat.not_lt_zero i)), HC⟩
            case round =>
              clear HC
              obtain ⟨j, hj, rfl, HK, HC⟩ := hrel
              by_cases hlt : j < m
              · have hltI : (j : Int) < m := by omega
                have hjl : j < l.length := by rw [← HM.out]; exact hlt
                obtain ⟨g, o, rfl, _, hg, hcell⟩ := (HV.out.only HC.out (by simp)).at_.2.2.2 j (.string (l.getD j ByteArray.empty)) (by simp [strs, List.getElem?_eq_getElem hjl])
                have HKD := hide (fun W => Kind_any W (l.getD j ByteArray.empty) (by have := HSZ.out (l.getD j ByteArray.empty) (by rw [List.getD_eq_getElem?_getD, List.getElem?_eq_getElem hjl]; exact List.getElem_mem hjl); unfold maxLen; omega))
                unfold KindPost at HKD
                by_cases hz : kindT (l.getD j ByteArray.empty) = 0
                · rw [hz] at HKD
                  generalize l.getD j ByteArray.empty = part at *
                  clear hz hjl
                  go_wp2_with (go_at_call 53; refine (HKD.out _).mono ?_; rintro e w5 ⟨rfl, ho⟩; have HC := hide (HC.out.trans ho); clear ho)
                  go_ret
                  exact makepost HMK.out HC.out
                · have HZ := hide (show ∀ i, i < j + 1 → kindT (l.getD i ByteArray.empty) ≠ 0 from fun i hi => (Nat.lt_or_eq_of_le (Nat.le_of_lt_succ hi)).elim (HK.out i) (fun h => by rw [h]; exact hz))
                  have hzb : (kindT (l.getD j ByteArray.empty) == 0) = false := by rw [beq_eq_false_iff_ne]; exact hz
                  generalize l.getD j ByteArray.empty = part at *
                  generalize kindT part = kp at *
                  clear hz hjl
                  go_wp2_with (go_at_call 53; refine (HKD.out _).mono ?_; rintro e w5 ⟨rfl, ho⟩; have HC := hide (HC.out.trans ho); clear ho)
                  go_roundw
                  case rel => exact ⟨j + 1, by omega, by go_num, HZ, HC⟩
                  case measure => simp [intOf]; omega
              · exact absurd HZ0.out (HK.out i0 (by have := HI0.out; omega))
    have HSM := hide (show ∀ i, i < l.length → (l.getD i ByteArray.empty).size ≤ 65536 from fun i hi => by apply Decidable.byContradiction; intro h; exact hbg ⟨i, hi, by omega⟩)
    clear hbg
    cases hnb : numberedV k
    all_goals
      have HNB := hide hnb
      first | (have HAL := hide (HALW.out hnb)) | skip
      clear hnb
      go_enter Tryz.func122, Tryz.ntmps122
      go_wp2_with (first | (go_at_call 184; refine (HLT.out _).mono ?_; rintro e w1 ⟨rfl, ho⟩; have HC := hide ho; clear ho) | (go_at_call 185; refine (numbered_any _ _).mono ?_; rintro e w2 ⟨rfl, rfl⟩; rw [HNB.out]) | (go_at_call 186; refine (allowed_any _ _ _).mono ?_; rintro e w2 ⟨rfl, rfl⟩; rw [HAL.out]) | (go_at_call 187; refine (fits_any _ _ _).mono ?_; rintro e w2 ⟨rfl, rfl⟩; rw [HFT.out]))
      go_loopw [39, 10] (fun i s wr => ∃ j : Nat, j ≤ m ∧ i = .int .i64 j ∧ s = .int .i64 (sumL (l.take j) : Nat) ∧ sumL (l.take j) ≤ 65536 ∧ Hid (Only [] w wr)) (fun i _ _ => m - (intOf i).toNat)
      case atStart => exact ⟨0, Nat.zero_le _, rfl, rfl, Nat.zero_le _, HC⟩
      case round =>
        clear HC
        obtain ⟨j, hj, rfl, rfl, hsum, HC⟩ := hrel
        by_cases hlt : j < m
        · have hltI : (j : Int) < m := by omega
          have hjl : j < l.length := by rw [← HM.out]; exact hlt
          have HJS := hide (sumL_take l j hjl)
          obtain ⟨g, o, rfl, _, hg, hcell⟩ := (HV.out.only HC.out (by simp)).at_.2.2.2 j (.string (l.getD j ByteArray.empty)) (by simp [strs, List.getElem?_eq_getElem hjl])
          have hps := HSM.out j hjl
          obtain ⟨u, hu⟩ : ∃ u, u = sumL (l.take j) := ⟨_, rfl⟩
          have HU := hide hu
          rw [← hu] at hsum ⊢
          clear hu
          generalize l.getD j ByteArray.empty = part at *
          by_cases hbig : 65536 < u + (part.size + 1)
          · have hbigI : (65536 : Int) < (u : Int) + ((part.size : Int) + 1) := by omega
            have HMK := hide (make_big (k := k) (n := n) (b := b) (l := l) (by have := sumL_mono l (j + 1); have := HJS.out; have := HU.out; omega))
            clear hbig hjl
            go_wp2_with fail
            go_ret
            exact makepost HMK.out HC.out
          · have hbigI : ¬ (65536 : Int) < (u : Int) + ((part.size : Int) + 1) := by omega
            clear hbig hjl
            have hle : u + (part.size + 1) ≤ 65536 := by omega
            go_wp2_with fail
            go_roundw
            case rel => exact ⟨j + 1, by omega, by go_num, by rw [HJS.out, ← HU.out]; go_num, by rw [HJS.out, ← HU.out]; exact hle, HC⟩
            case measure => simp [intOf]; omega
        · have hge : ¬ (j : Int) < m := by omega
          have HSUM := hide (show sumL l ≤ 65536 by have h := hsum; rw [List.take_of_length_le (by have := HM.out; omega)] at h; exact h)
          clear hlt hj hsum
          by_cases hd : k = 4 ∧ 65536 < b.length
          · obtain ⟨rfl, hd⟩ := hd
            have HMK := hide (make_data (n := n) (l := l) (rfl : (4 : Int) = 4) hd)
            have hdI : (65536 : Int) < b.length := by omega
            clear hd
            go_wp2_with fail
            go_ret
            exact makepost HMK.out HC.out
          have HD := hide (show k = 4 → b.length ≤ 65536 from fun h => by apply Decidable.byContradiction; intro h2; exact hd ⟨h, by omega⟩)
          have hcut : ((k == 4) = true ∧ ¬ (65536 : Int) < b.length) ∨ (k == 4) = false := by
            by_cases h : k = 4
            · exact .inl ⟨by rw [beq_iff_eq]; exact h, by have := HD.out h; omega⟩
            · exact .inr (by rw [beq_eq_false_iff_ne]; exact h)
          clear hd
          rcases hcut with ⟨hk4, hbl⟩ | hk4
          all_goals
            go_wp2_with fail
            go_loopw [60] (fun i wr => ∃ j : Nat, j ≤ m ∧ i = .int .i64 j ∧ Hid (∀ i, i < j → kindT (l.getD i ByteArray.empty) ≠ 0) ∧ Hid (Only [] w wr)) (fun i _ => m - (intOf i).toNat)
            case atStart => exact ⟨0, Nat.zero_le _, rfl, hide (fun i h => absurd h (Nat.not_lt_zero i)), HC⟩
            case round =>
              clear HC
              obtain ⟨j, hj, rfl, HK, HC⟩ := hrel
              by_cases hlt : j < m
              · have hltI : (j : Int) < m := by omega
                have hjl : j < l.length := by rw [← HM.out]; exact hlt
                obtain ⟨g, o, rfl, _, hg, hcell⟩ := (HV.out.only HC.out (by simp)).at_.2.2.2 j (.string (l.getD j ByteArray.empty)) (by simp [strs, List.getElem?_eq_getElem hjl])
                have HKD := hide (fun W => Kind_any W (l.getD j ByteArray.empty) (by unfold maxLen; have := size_le l j hjl; have := HSUM.out; omega))
                unfold KindPost at HKD
                by_cases hz : kindT (l.getD j ByteArray.empty) = 0
                · have HMK := hide (make_part (k := k) (n := n) (b := b) hjl hz)
                  rw [hz] at HKD
                  generalize l.getD j ByteArray.empty = part at *
                  clear hz hjl
                  go_wp2_with (go_at_call 53; refine (HKD.out _).mono ?_; rintro e w5 ⟨rfl, ho⟩; have HC := hide (HC.out.trans ho); clear ho)
                  go_ret
                  exact makepost HMK.out HC.out
                · have HZ := hide (show ∀ i, i < j + 1 → kindT (l.getD i ByteArray.empty) ≠ 0 from fun i hi => (Nat.lt_or_eq_of_le (Nat.le_of_lt_succ hi)).elim (HK.out i) (fun h => by rw [h]; exact hz))
                  have hzb : (kindT (l.getD j ByteArray.empty) == 0) = false := by rw [beq_eq_false_iff_ne]; exact hz
                  generalize hpt : l.getD j ByteArray.empty = part at *
                  generalize kindT part = kp at *
                  have HPT := hide hpt
                  clear hz hjl hpt
                  go_wp2_with (go_at_call 53; refine (HKD.out _).mono ?_; rintro e w5 ⟨rfl, ho⟩; have HC := hide (HC.out.trans ho); clear ho)
                  go_roundw
                  case rel => exact ⟨j + 1, by omega, by go_num, HZ, HC⟩
                  case measure => simp [intOf]; omega
              · have hge : ¬ (j : Int) < m := by omega
                have HKA := hide (show ∀ i, i < l.length → kindT (l.getD i ByteArray.empty) ≠ 0 from fun i hi => HK.out i (by have := HM.out; omega))
                have HJ2 := hide (fun W ho => HJ.out HFT.out HSUM.out HD.out W ho)
                by_cases hlong : 65536 < (txtL k n b (sortV k l)).length
                · have HMK := hide (make_long hlong)
                  have hlongI : (65536 : Int) < (⟨(txtL k n b (sortV k l)).toArray⟩ : ByteArray).size := by show (65536 : Int) < ((txtL k n b (sortV k l)).toArray.size : Nat); rw [List.size_toArray]; omega
                  generalize (⟨(txtL k n b (sortV k l)).toArray⟩ : ByteArray) = txt at *
                  clear hlong
                  go_wp2_with (go_at_call 188; refine (HJ2.out _ HC.out).mono ?_; rintro e w5 ⟨rfl, ho⟩; have HC := hide (HC.out.trans ho); clear ho)
                  go_ret
                  exact makepost HMK.out HC.out
                · have HMK := hide (make_is (b := b) HR.out HALW.out (by rw [← HM.out]; exact HFT.out) HKA.out (by omega))
                  have hlongI : ¬ (65536 : Int) < (⟨(txtL k n b (sortV k l)).toArray⟩ : ByteArray).size := by show ¬ (65536 : Int) < ((txtL k n b (sortV k l)).toArray.size : Nat); rw [List.size_toArray]; omega
                  unfold bytesOf at HMK
                  generalize (⟨(txtL k n b (sortV k l)).toArray⟩ : ByteArray) = txt at *
                  clear hlong
                  go_wp2_with (go_at_call 188; refine (HJ2.out _ HC.out).mono ?_; rintro e w5 ⟨rfl, ho⟩; have HC := hide (HC.out.trans ho); clear ho)
                  go_ret
                  exact makepost HMK.out HC.out
end
section
open Go.RowKit Go.Deep

theorem three_of {k : Int} {parts : List ByteArray} (hk : k = 10) (hm : fitsV k parts.length = true) : ∃ a b c, parts = [a, b, c] := by
  subst hk
  have hl : parts.length = 3 := by
    simp only [fitsV, leastV, mostV] at hm
    simp at hm
    omega
  match parts, hl with
  | [a, b, c], _ => exact ⟨a, b, c, rfl⟩
end
section
open Go.RowKit Go.Deep

/-- What Agree makes. -/
noncomputable def agreeT (x p : ByteArray) : ByteArray := match parseV p with
  | none => ByteArray.empty
  | some nd => if nd.1 = 5 then makeV 6 0 [] [x, nd.2.2.2.getD 0 ByteArray.empty] else ByteArray.empty
theorem one_of {k : Int} {parts : List ByteArray} (hk : k = 5) (hm : fitsV k parts.length = true) : ∃ a, parts = [a] := by
  subst hk
  have hl : parts.length = 1 := by
    simp only [fitsV, leastV, mostV] at hm
    simp at hm
    omega
  exact List.length_eq_one_iff.1 hl
section calls
variable (w : World) (htab : Tab w)
include htab
theorem make_new2 (G : Nat) (hG : G = w.heap.size) (k : Int) (hk : (Lit.int .i64 k).wf = true) (n : Nat) (hn : n < 18446744073709551616) (x y : ByteArray) (hx : x.size ≤ maxLen) (hy : y.size ≤ maxLen) :
    Calls Tryz.prog 122 #[.int .i64 k, .int .u64 n, .slice none 0 0, .slice (some ⟨G, 0, none⟩) 2 2] (w.alloc (.cells #[.string x, .string y] 9)) (MakePost (makeV k n [] [x, y]) w) := by
  subst hG
  exact (Make_any k hk n hn _ _ [] [x, y] (fun p hp => by simp at hp; rcases hp with rfl | rfl <;> assumption) (w.alloc (.cells #[.string x, .string y] 9)) (Rd.nil _ _) (rd_new w 9 [] (strs [x, y]) (by simp) (by unfold maxLen; simp [strs])) (htab.only ((Only.refl [] w).alloc _) (by simp))).mono fun e w' h => ⟨h.1, ((Only.refl [] w).alloc _).trans h.2⟩
theorem make_new1 (G : Nat) (hG : G = w.heap.size) (k : Int) (hk : (Lit.int .i64 k).wf = true) (n : Nat) (hn : n < 18446744073709551616) (x : ByteArray) (hx : x.size ≤ maxLen) :
    Calls Tryz.prog 122 #[.int .i64 k, .int .u64 n, .slice none 0 0, .slice (some ⟨G, 0, none⟩) 1 1] (w.alloc (.cells #[.string x] 9)) (MakePost (makeV k n [] [x]) w) := by
  subst hG
  exact (Make_any k hk n hn _ _ [] [x] (fun p hp => by simp at hp; rw [hp]; exact hx) (w.alloc (.cells #[.string x] 9)) (Rd.nil _ _) (rd_new w 9 [] (strs [x]) (by simp) (by unfold maxLen; simp [strs])) (htab.only ((Only.refl [] w).alloc _) (by simp))).mono fun e w' h => ⟨h.1, ((Only.refl [] w).alloc _).trans h.2⟩
theorem make_new3 (G : Nat) (hG : G = w.heap.size) (k : Int) (hk : (Lit.int .i64 k).wf = true) (n : Nat) (hn : n < 18446744073709551616) (x y z : ByteArray) (hx : x.size ≤ maxLen) (hy : y.size ≤ maxLen) (hz : z.size ≤ maxLen) :
    Calls Tryz.prog 122 #[.int .i64 k, .int .u64 n, .slice none 0 0, .slice (some ⟨G, 0, none⟩) 3 3] (w.alloc (.cells #[.string x, .string y, .string z] 9)) (MakePost (makeV k n [] [x, y, z]) w) := by
  subst hG
  exact (Make_any k hk n hn _ _ [] [x, y, z] (fun p hp => by simp at hp; rcases hp with rfl | rfl | rfl <;> assumption) (w.alloc (.cells #[.string x, .string y, .string z] 9)) (Rd.nil _ _) (rd_new w 9 [] (strs [x, y, z]) (by simp) (by unfold maxLen; simp [strs])) (htab.only ((Only.refl [] w).alloc _) (by simp))).mono fun e w' h => ⟨h.1, ((Only.refl [] w).alloc _).trans h.2⟩
end calls
set_option maxRecDepth 100000 in
set_option maxHeartbeats 6400000 in
theorem Agree_any (w : World) (x p : ByteArray) (hx : x.size ≤ maxLen) (hs : p.size ≤ maxLen) (htab : Tab w) : Calls Tryz.prog 128 #[.string x, .string p] w (MakePost (agreeT x p) w) := by
  have HP := hide (parse_any w p hs)
  cases hp : parseV p with
  | none =>
    rw [hp] at HP
    have HV := hide (show agreeT x p = ByteArray.empty by unfold agreeT; rw [hp])
    clear hp
    go_enter Tryz.func128, Tryz.ntmps128
    go_wp2_with (go_at_call 120; refine HP.out.mono ?_; rintro e w1 ⟨rfl, ho⟩; unfold nd0; have HO := hide ho; clear ho)
    go_ret
    exact makepost HV.out (HO.out.alloc _)
  | some nd =>
    obtain ⟨k, m, bs, parts⟩ := nd
    have hm := (read_make hp).2.2.2.1
    by_cases hk : k = 5
    · have hps := (read_make hp).2.2.2.2.2.2.2.2.1
      obtain ⟨p0, rfl⟩ := one_of hk hm
      subst hk
      have HSZ := hide (show p0.size ≤ maxLen from Nat.le_trans (hps p0 (by simp)) hs)
      have HX := hide hx
      have HT := hide htab
      have HV := hide (show agreeT x p = makeV 6 0 [] [x, p0] by unfold agreeT; rw [hp]; rfl)
      rw [hp] at HP
      clear hp hm hps hx hs htab
      go_enter Tryz.func128, Tryz.ntmps128
      go_wp2_with (first
        | (go_at_call 120; refine HP.out.mono ?_; rintro e w1 ⟨bv, pv, rfl, ho, hb, hp⟩; obtain ⟨A, cap, rfl, _, _⟩ := (hb [] (by simp)).formb; obtain ⟨A2, cap2, rfl, _, _⟩ := (hp [] (by simp)).form; obtain ⟨g, o, rfl, _, hc⟩ := rd_strs ((hp [] (by simp)).only ((Only.refl [] _).alloc (.cells #[.int .i64 5, .int .u64 (m : Nat), .slice A bs.length cap, .slice A2 1 cap2] 199)) (by simp)) (by simp); have s0 := hc 0 (by simp); simp at s0; have HO := hide ho; clear ho hb hp hc; simp only [strs, List.map_cons, List.map_nil, List.length_cons, List.length_nil])
        | (go_at_call 122; refine (make_new2 _ (HT.out.only (HO.out.alloc _) (by simp)) _ (by simp) 6 (by decide) 0 (by decide) x p0 HX.out HSZ.out).mono ?_; rintro e w2 ⟨rfl, ho⟩; have HO := hide ((HO.out.alloc _).trans ho); clear ho))
      go_ret
      exact makepost HV.out HO.out
    · have HV := hide (show agreeT x p = ByteArray.empty by unfold agreeT; rw [hp]; simp only; rw [if_neg hk])
      rw [hp] at HP
      have hkb : (k != 5) = true := by rw [bne_iff_ne]; exact hk
      clear hp hk hm
      go_enter Tryz.func128, Tryz.ntmps128
      go_wp2_with (go_at_call 120; refine HP.out.mono ?_; rintro e w1 ⟨bv, pv, rfl, ho, hb, hp⟩; obtain ⟨A, cap, rfl, _, _⟩ := (hb [] (by simp)).formb; obtain ⟨A2, cap2, rfl, _, _⟩ := (hp [] (by simp)).form; have HO := hide ho; clear ho hb hp)
      go_ret
      exact makepost HV.out (HO.out.alloc _)
end
section
open Go.RowKit Go.Deep

/-- What a text is as a term: kind 0, if it is none. -/
def whatV (s : ByteArray) : Nd := (parseV s).getD (0, 0, [], [])
theorem what_kind (s : ByteArray) : kindT s = (whatV s).1 := by unfold kindT whatV; cases parseV s <;> rfl
theorem what_is (s : ByteArray) : (parseV s).isSome = decide ((whatV s).1 ≠ 0) := by
  unfold whatV
  cases h : parseV s with
  | none => rfl
  | some nd =>
    obtain ⟨k, n, b, l⟩ := nd
    have hm := (read_make h).2.1
    rw [Option.isSome_some, Option.getD_some]
    exact (decide_eq_true (by simp only; omega)).symm
theorem make_swap (n : Nat) (b : List UInt8) (x y : ByteArray) : makeV 6 n b [x, y] = makeV 6 n b [y, x] := by
  unfold makeV
  rw [sort_two x y]
  have h : (∀ p ∈ [x, y], (parseV p).isSome = true) ↔ (∀ p ∈ [y, x], (parseV p).isSome = true) := by
    simp [and_comm]
  by_cases hc : (1 : Int) ≤ 6 ∧ (6 : Int) ≤ 11 ∧ (numberedV 6 = true → allowedV 6 n = true) ∧ fitsV 6 ([x, y].length : Nat) = true ∧ (∀ p ∈ [x, y], (parseV p).isSome = true) ∧ (txtL 6 n b (sortV 6 [y, x])).length ≤ 65536
  · rw [if_pos hc, if_pos ⟨hc.1, hc.2.1, hc.2.2.1, hc.2.2.2.1, h.1 hc.2.2.2.2.1, hc.2.2.2.2.2⟩]
  · rw [if_neg hc, if_neg (fun c => hc ⟨c.1, c.2.1, c.2.2.1, c.2.2.2.1, h.2 c.2.2.2.2.1, c.2.2.2.2.2⟩)]
theorem undrew {S : List Nat} {w w' : World} (h : Only S w.drew w') : Only S w w' := ⟨h.os, h.tape, h.output, h.size, h.block⟩
end
section
open Go.RowKit Go.Deep

theorem make_size {k : Int} {n : Nat} {b : List UInt8} {l : List ByteArray} (hn : n < 18446744073709551616) (h : makeV k n b l ≠ ByteArray.empty) : (makeV k n b l).size ≤ 65536 := parse_size (make_read hn h)
end
section
open Go.RowKit Go.Deep

/-- The text of a number. -/
noncomputable def numT (n : Nat) : ByteArray := makeV 3 n [] []
/-- What Mac1 signs. -/
noncomputable def bodyM (m : Mg) : ByteArray :=
  if rightM m = true ∧ m.k ≤ 2 then makeV 11 0 [] ([numT m.k.toNat, numT m.s, numT m.r] ++ (textsM m).take ((textsM m).length - 2)) else ByteArray.empty
/-- What Mac2 signs. -/
noncomputable def signedM (m : Mg) : ByteArray := if bodyM m = ByteArray.empty then ByteArray.empty else makeV 11 0 [] [bodyM m, m.x11]
theorem make_size' (k : Int) (n : Nat) (b : List UInt8) (l : List ByteArray) (hn : n < 18446744073709551616) : (makeV k n b l).size ≤ maxLen := by
  by_cases h : makeV k n b l = ByteArray.empty
  · rw [h]; exact Nat.zero_le _
  · exact Nat.le_trans (make_size hn h) (by unfold maxLen; omega)
end
end Go.Proofs.YtcokjoidpnfjhaaGreatDoor

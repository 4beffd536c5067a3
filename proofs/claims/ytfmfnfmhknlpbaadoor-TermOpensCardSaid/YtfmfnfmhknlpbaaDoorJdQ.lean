/-
  term.join of a Dh: by walking. Condition: the text has at most 1,000,000 bytes; the library's table of powers of ten reads as it was laid.
-/
import Derived.Test.YtfmfnfmhknlpbaaDoorZC
import Derived.Test.YtfmfnfmhknlpbaaDoorJnQ
import Derived.Test.YtfmfnfmhknlpbaaDoorTvQ
import Derived.Handy
namespace Go.Proofs.YtfmfnfmhknlpbaaDoor
open Go.RowKit Go.Deep

theorem hb_cell {w W : World} {g : Nat} (h : Below w.heap.size w W) (hg : g < w.heap.size) (i : Nat) : W.cell? ⟨g, i, none⟩ = w.cell? ⟨g, i, none⟩ := h.cell (p := ⟨g, i, none⟩) hg
theorem dlen (a : ByteArray) : a.data.toList.length = a.size := rfl
theorem al_ : ∀ (W : World) (n : Nat) (o : Obj), (W.drewN n).alloc o = (W.alloc o).drewN n := fun _ _ _ => rfl

set_option maxRecDepth 100000 in
set_option maxHeartbeats 6400000 in
theorem join_dh (n : Nat) (bv lv : Value) (b : List UInt8) (p q : ByteArray) (hsz : p.size + q.size ≤ 900000) (w : World) (hv : Rd w [] lv (strs [p, q])) :
    Calls Tryd.prog 60 #[.int .u8 ((letU 6).toNat : Nat), .int .i64 6, .int .u64 n, bv, lv] w (StrPost (txtL 6 n b (sortV 6 [p, q])) w) := by
  obtain ⟨A, cap, rfl, hc1, hc2⟩ := hv.form
  unfold maxLen at hc2
  obtain ⟨g, o, rfl, _, hcell⟩ := rd_strs hv (by simp)
  have hg : g < w.heap.size := by have := World.block_lt_of_cell? w _ (hcell 0 (by simp)); simpa using this
  have HD0 := hide (show w.cell? ⟨g, o, none⟩ = some (.string p) from hcell 0 (by simp))
  have HD1 := hide (show w.cell? ⟨g, o + 1, none⟩ = some (.string q) from hcell 1 (by simp))
  have HSZ := hide hsz
  have HG := hide hg
  have HB := hide (fresh_bc w)
  have HC := hide (show Below w.heap.size w (w.alloc (.cells #[.pointer none, .slice none 0 0] 124)) from below_of_only ((Only.refl [] w).alloc _) (Nat.le_refl _))
  have d0 := (hb_cell HC.out HG.out o).trans HD0.out
  have d1 := (hb_cell HC.out HG.out (o + 1)).trans HD1.out
  have HNB := hide (show numberedV 6 = false by decide)
  have al := al_
  rw [show (strs [p, q]).length = 2 from rfl] at hc1 ⊢
  clear hv hcell hsz hg
  rcases Bool.eq_false_or_eq_true (gtB p q) with hq | hq
  · have hq2 := hq
    have HTX := hide (show txtL 6 n b (sortV 6 [p, q]) = [letU 6] ++ [40] ++ q.data.toList ++ [44] ++ p.data.toList ++ [41] by rw [show sortV 6 [p, q] = [q, p] by unfold sortV; rw [if_pos (show wrong 6 [p, q] from ⟨rfl, rfl, hq2⟩)]; rfl, txt_head 6 n b _ (by omega) (by intro h; cases h)]; simp [headL, HNB.out, joinL])
    unfold gtB at hq
    clear hq2
    go_enter Tryd.func60, Tryd.ntmps60
    go_wp2_with (first
      | (go_at_call 85; refine (write_byte3 w.heap.size w.heap.size _ _ _ HB.out (by rw [bc_len]; have := HSZ.out; simp only [List.length_append, List.length_cons, List.length_nil, dlen]; omega) HC.out.size).mono ?_; rintro e w1 ⟨rfl, h1, hb1, hh1⟩; have HC := hide (HC.out.trans hb1); (first | (have HB := hide (isb_eq h1 (bc_push _ (letU 6)))) | (have HB := hide (isb_eq h1 (bc_push _ 40)))); clear d0 d1; have d0 := (hb_cell HC.out HG.out o).trans HD0.out; have d1 := (hb_cell HC.out HG.out (o + 1)).trans HD1.out; clear h1 hb1 hh1)
      | (go_at_call 57; refine (numbered_any _ _).mono ?_; rintro e w' ⟨rfl, rfl⟩; rw [HNB.out]))
    go_quiet (fail)
    go_wp2_with fail
    go_region
    go_wp2_with fail
    have HB := hide (bd_only HB.out (((Only.refl [] w1).alloc (.cells #[.string q, .string p] 9)).drewN (nq + 1)))
    have HC := hide (below_drewN (HC.out.alloc (by have := HC.out.size; omega) (.cells #[.string q, .string p] 9)) (nq + 1))
    have HK := hide ((Blk.new w1 9 #[.string q, .string p]).drewN (nq + 1))
    generalize (w1.alloc (.cells #[.string q, .string p] 9)).drewN (nq + 1) = wq at *
    generalize w1.heap.size = G at *
    have HCE := hide (show ∀ W, Held wq W → Below w.heap.size w W → W.cell? ⟨G, 0, none⟩ = some (.string q) ∧ W.cell? ⟨G, 1, none⟩ = some (.string p) from fun W hh _ => ⟨(hh _ _ _ (by decide) (by decide) HK.out).cell 0, (hh _ _ _ (by decide) (by decide) HK.out).cell 1⟩)
    have HH := hide (held_refl wq)
    clear d0 d1
    obtain ⟨c0, c1⟩ := HCE.out _ HH.out HC.out
    refine wp_loop_rounds 3 ?_
    rw [rounds_succ]
    go_wp2_with (first
      | (go_at_call 87; refine (write_string3 w.heap.size w.heap.size _ _ _ HB.out (by rw [bc_len]; have := HSZ.out; simp only [List.length_append, List.length_cons, List.length_nil, dlen]; omega) HC.out.size).mono ?_; rintro e w3 ⟨rfl, h1, hb1, hh1⟩; have HC := hide (HC.out.trans hb1); have HB := hide (isb_eq h1 (bc_bytes _ _)); have HH := hide (HH.out.trans hh1); clear c0 c1; obtain ⟨c0, c1⟩ := HCE.out _ HH.out HC.out; clear h1 hb1 hh1))
    rw [rounds_succ]
    go_wp2_with (first
      | (go_at_call 85; refine (write_byte3 w.heap.size w.heap.size _ _ _ HB.out (by rw [bc_len]; have := HSZ.out; simp only [List.length_append, List.length_cons, List.length_nil, dlen]; omega) HC.out.size).mono ?_; rintro e w1 ⟨rfl, h1, hb1, hh1⟩; have HC := hide (HC.out.trans hb1); (first | (have HB := hide (isb_eq h1 (bc_push _ 44)))); have HH := hide (HH.out.trans hh1); clear c0 c1; obtain ⟨c0, c1⟩ := HCE.out _ HH.out HC.out; clear h1 hb1 hh1)
      | (go_at_call 87; refine (write_string3 w.heap.size w.heap.size _ _ _ HB.out (by rw [bc_len]; have := HSZ.out; simp only [List.length_append, List.length_cons, List.length_nil, dlen]; omega) HC.out.size).mono ?_; rintro e w3 ⟨rfl, h1, hb1, hh1⟩; have HC := hide (HC.out.trans hb1); have HB := hide (isb_eq h1 (bc_bytes _ _)); have HH := hide (HH.out.trans hh1); clear c0 c1; obtain ⟨c0, c1⟩ := HCE.out _ HH.out HC.out; clear h1 hb1 hh1))
    rw [rounds_succ]
    go_wp2_with (first
      | (go_at_call 85; refine (write_byte3 w.heap.size w.heap.size _ _ _ HB.out (by rw [bc_len]; have := HSZ.out; simp only [List.length_append, List.length_cons, List.length_nil, dlen]; omega) HC.out.size).mono ?_; rintro e w1 ⟨rfl, h1, hb1, hh1⟩; have HC := hide (HC.out.trans hb1); (first | (have HB := hide (isb_eq h1 (bc_push _ 41)))); have HH := hide (HH.out.trans hh1); clear c0 c1; obtain ⟨c0, c1⟩ := HCE.out _ HH.out HC.out; clear h1 hb1 hh1)
      | (go_at_call 86; refine (Tryd.Builder_String_any w.heap.size w.heap.size _ _ HB.out HC.out.size).mono ?_; rintro e w4 ⟨rfl, hb1⟩; have HC := hide (HC.out.trans hb1); clear hb1))
    go_ret
    exact strpost (by rw [HTX.out]; simp) (only_of_below HC.out)
  · have hq2 := hq
    have HTX := hide (show txtL 6 n b (sortV 6 [p, q]) = [letU 6] ++ [40] ++ p.data.toList ++ [44] ++ q.data.toList ++ [41] by rw [show sortV 6 [p, q] = [p, q] by unfold sortV; rw [if_neg (show ¬ wrong 6 [p, q] by rintro ⟨_, _, h⟩; rw [show gtB ([p, q].getD 0 ByteArray.empty) ([p, q].getD 1 ByteArray.empty) = gtB p q from rfl, hq2] at h; cases h)], txt_head 6 n b _ (by omega) (by intro h; cases h)]; simp [headL, HNB.out, joinL])
    unfold gtB at hq
    clear hq2
    go_enter Tryd.func60, Tryd.ntmps60
    go_wp2_with (first
      | (go_at_call 85; refine (write_byte3 w.heap.size w.heap.size _ _ _ HB.out (by rw [bc_len]; have := HSZ.out; simp only [List.length_append, List.length_cons, List.length_nil, dlen]; omega) HC.out.size).mono ?_; rintro e w1 ⟨rfl, h1, hb1, hh1⟩; have HC := hide (HC.out.trans hb1); (first | (have HB := hide (isb_eq h1 (bc_push _ (letU 6)))) | (have HB := hide (isb_eq h1 (bc_push _ 40)))); clear d0 d1; have d0 := (hb_cell HC.out HG.out o).trans HD0.out; have d1 := (hb_cell HC.out HG.out (o + 1)).trans HD1.out; clear h1 hb1 hh1)
      | (go_at_call 57; refine (numbered_any _ _).mono ?_; rintro e w' ⟨rfl, rfl⟩; rw [HNB.out]))
    go_quiet (fail)
    go_wp2_with fail
    have HB := hide (bd_only HB.out ((Only.refl [] w1).drewN nq))
    have HC := hide (below_drewN HC.out nq)
    generalize w1.drewN nq = wq at *
    have HCE := hide (show ∀ W, Held wq W → Below w.heap.size w W → W.cell? ⟨g, o, none⟩ = some (.string p) ∧ W.cell? ⟨g, o + 1, none⟩ = some (.string q) from fun W _ hb => ⟨(hb_cell hb HG.out o).trans HD0.out, (hb_cell hb HG.out (o + 1)).trans HD1.out⟩)
    have HH := hide (held_refl wq)
    clear d0 d1
    obtain ⟨c0, c1⟩ := HCE.out _ HH.out HC.out
    refine wp_loop_rounds 3 ?_
    rw [rounds_succ]
    go_wp2_with (first
      | (go_at_call 87; refine (write_string3 w.heap.size w.heap.size _ _ _ HB.out (by rw [bc_len]; have := HSZ.out; simp only [List.length_append, List.length_cons, List.length_nil, dlen]; omega) HC.out.size).mono ?_; rintro e w3 ⟨rfl, h1, hb1, hh1⟩; have HC := hide (HC.out.trans hb1); have HB := hide (isb_eq h1 (bc_bytes _ _)); have HH := hide (HH.out.trans hh1); clear c0 c1; obtain ⟨c0, c1⟩ := HCE.out _ HH.out HC.out; clear h1 hb1 hh1))
    rw [rounds_succ]
    go_wp2_with (first
      | (go_at_call 85; refine (write_byte3 w.heap.size w.heap.size _ _ _ HB.out (by rw [bc_len]; have := HSZ.out; simp only [List.length_append, List.length_cons, List.length_nil, dlen]; omega) HC.out.size).mono ?_; rintro e w1 ⟨rfl, h1, hb1, hh1⟩; have HC := hide (HC.out.trans hb1); (first | (have HB := hide (isb_eq h1 (bc_push _ 44)))); have HH := hide (HH.out.trans hh1); clear c0 c1; obtain ⟨c0, c1⟩ := HCE.out _ HH.out HC.out; clear h1 hb1 hh1)
      | (go_at_call 87; refine (write_string3 w.heap.size w.heap.size _ _ _ HB.out (by rw [bc_len]; have := HSZ.out; simp only [List.length_append, List.length_cons, List.length_nil, dlen]; omega) HC.out.size).mono ?_; rintro e w3 ⟨rfl, h1, hb1, hh1⟩; have HC := hide (HC.out.trans hb1); have HB := hide (isb_eq h1 (bc_bytes _ _)); have HH := hide (HH.out.trans hh1); clear c0 c1; obtain ⟨c0, c1⟩ := HCE.out _ HH.out HC.out; clear h1 hb1 hh1))
    rw [rounds_succ]
    go_wp2_with (first
      | (go_at_call 85; refine (write_byte3 w.heap.size w.heap.size _ _ _ HB.out (by rw [bc_len]; have := HSZ.out; simp only [List.length_append, List.length_cons, List.length_nil, dlen]; omega) HC.out.size).mono ?_; rintro e w1 ⟨rfl, h1, hb1, hh1⟩; have HC := hide (HC.out.trans hb1); (first | (have HB := hide (isb_eq h1 (bc_push _ 41)))); have HH := hide (HH.out.trans hh1); clear c0 c1; obtain ⟨c0, c1⟩ := HCE.out _ HH.out HC.out; clear h1 hb1 hh1)
      | (go_at_call 86; refine (Tryd.Builder_String_any w.heap.size w.heap.size _ _ HB.out HC.out.size).mono ?_; rintro e w4 ⟨rfl, hb1⟩; have HC := hide (HC.out.trans hb1); clear hb1))
    go_ret
    exact strpost (by rw [HTX.out]; simp) (only_of_below HC.out)
end Go.Proofs.YtfmfnfmhknlpbaaDoor

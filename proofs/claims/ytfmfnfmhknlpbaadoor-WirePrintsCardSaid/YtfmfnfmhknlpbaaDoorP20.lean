/-
  Walks and plain words for WirePrints (texts Ag, La, Lm, Ws0, Wh, Wqr1, Ws1). No condition beyond those that each theorem states.
-/
import Derived.Test.YtfmfnfmhknlpbaaDoorChecked
import Derived.StillTailTactics
import Derived.Deep.RegionHeld3
import Derived.Test.YtfmfnfmhknlpbaaDoorP19
namespace Go.Proofs.YtfmfnfmhknlpbaaDoor
section
open Go.RowKit Go.Deep

section calls
variable (w : World) (htab : Tab w)
include htab
theorem make_new2 (G : Nat) (hG : G = w.heap.size) (k : Int) (hk : (Lit.int .i64 k).wf = true) (n : Nat) (hn : n < 18446744073709551616) (x y : ByteArray) (hx : x.size ≤ maxLen) (hy : y.size ≤ maxLen) :
    Calls Tryd.prog 11 #[.int .i64 k, .int .u64 n, .slice none 0 0, .slice (some ⟨G, 0, none⟩) 2 2] (w.alloc (.cells #[.string x, .string y] 9)) (MakePost (makeV k n [] [x, y]) w) := by
  subst hG
  exact (Make_any k hk n hn _ _ [] [x, y] (fun p hp => by simp at hp; rcases hp with rfl | rfl <;> assumption) (w.alloc (.cells #[.string x, .string y] 9)) (Rd.nil _ _) (rd_new w 9 [] (strs [x, y]) (by simp) (by unfold maxLen; simp [strs])) (htab.only ((Only.refl [] w).alloc _) (by simp))).mono fun e w' h => ⟨h.1, ((Only.refl [] w).alloc _).trans h.2⟩
end calls
end
section
open Go.RowKit Go.Deep

theorem same_refl (v u : Value) (l : List ByteArray) (w : World) (hx : Rd w [] v (strs l)) (hy : Rd w [] u (strs l)) : Calls Tryd.prog 19 #[v, u] w fun e w' => e = .returned (.bool true) ∧ Only [] w w' :=
  (same_strs v u l l w hx hy).mono fun e w' h => ⟨by rw [h.1, decide_eq_true rfl], h.2⟩
end
section
open Go.RowKit Go.Deep

theorem make_size {k : Int} {n : Nat} {b : List UInt8} {l : List ByteArray} (hn : n < 18446744073709551616) (h : makeV k n b l ≠ ByteArray.empty) : (makeV k n b l).size ≤ 65536 := parse_size (make_read hn h)
end
section
open Go.RowKit Go.Deep

/-- The text of a number. -/
noncomputable def numT (n : Nat) : ByteArray := makeV 3 n [] []
/-- What Mac1 signs. -/
noncomputable def bodyM (m : Mg) : ByteArray :=
  if rightM m = true ∧ m.k ≤ 2 then makeV 11 0 [] ([numT m.k.toNat, numT m.s, numT m.r] ++ (textsM m).take ((textsM m).length - 2)) else ByteArray.empty
/-- What Mac2 signs. -/
noncomputable def signedM (m : Mg) : ByteArray := if bodyM m = ByteArray.empty then ByteArray.empty else makeV 11 0 [] [bodyM m, m.x11]
theorem make_size' (k : Int) (n : Nat) (b : List UInt8) (l : List ByteArray) (hn : n < 18446744073709551616) : (makeV k n b l).size ≤ maxLen := by
  by_cases h : makeV k n b l = ByteArray.empty
  · rw [h]; exact Nat.zero_le _
  · exact Nat.le_trans (make_size hn h) (by unfold maxLen; omega)
set_option maxRecDepth 100000 in
set_option maxHeartbeats 12800000 in
theorem NumberR_any (w : World) (n : Nat) (hn : n < 18446744073709551616) : Calls Tryd.prog 69 #[.int .u64 n] w (MakePost (numT n) w) := by
  have HM := hide (fun W => MakeR_any 3 n hn (.slice none 0 0) (.slice none 0 0) [] (by simp) [] (by simp) (by simp) W (Rd.nil _ _) (Rd.nil _ _))
  unfold MakePost at HM
  clear hn
  go_enter Tryd.func69, Tryd.ntmps69
  go_wp2_with (go_at_call 18; refine (HM.out _).mono ?_; rintro e w2 ⟨rfl, ho⟩; have HO := hide ho; clear ho)
  go_ret
  exact makepost rfl HO.out

theorem ListR_any (w : World) (v : Value) (l : List ByteArray) (hl : l.length ≤ 1000) (hs : ∀ p ∈ l, p.size ≤ maxLen) (hv : Rd w [] v (strs l)) : Calls Tryd.prog 77 #[v] w (MakePost (makeV 11 0 [] l) w) := by
  have HM := hide (MakeR_any 11 0 (by omega) (.slice none 0 0) v [] (by simp) l hl hs w (Rd.nil _ _) hv)
  unfold MakePost at HM
  obtain ⟨A, cap, rfl, _, _⟩ := hv.form
  clear hv
  go_enter Tryd.func77, Tryd.ntmps77
  go_wp2_with (go_at_call 18; refine HM.out.mono ?_; rintro e w2 ⟨rfl, ho⟩; have HO := hide ho; clear ho)
  go_ret
  exact makepost rfl HO.out
end
section
open Go.RowKit Go.Deep

set_option maxRecDepth 100000 in
set_option maxHeartbeats 6400000 in
theorem With_1 (w : World) (s r c : Nat) (g o cap : Nat) (x0 x1 x2 x3 x4 : ByteArray) (hc : 5 ≤ cap) (h0 : w.cell? ⟨g, o, none⟩ = some (.string x0)) (h1 : w.cell? ⟨g, o + 1, none⟩ = some (.string x1)) (h2 : w.cell? ⟨g, o + 2, none⟩ = some (.string x2)) (h3 : w.cell? ⟨g, o + 3, none⟩ = some (.string x3)) (h4 : w.cell? ⟨g, o + 4, none⟩ = some (.string x4)) :
    Calls Tryd.prog 72 #[.int .i64 1, .int .u32 (s : Nat), .int .u32 (r : Nat), .int .u64 (c : Nat), .slice (some ⟨g, o, none⟩) 5 cap] w fun e w' =>
      e = .returned (.agg #[.int .i64 1, .int .u32 (s : Nat), .int .u32 0, .int .u64 0, .string x0, .string x1, .string x2, .string ⟨#[]⟩, .string ⟨#[]⟩, .string ⟨#[]⟩, .string ⟨#[]⟩, .string x3, .string x4]) ∧ Only [] w w' := by
  have hg : g < w.heap.size := by have := World.block_lt_of_cell? w _ h0; simpa using this
  have HRB := hide (Blk.new w 53 #[.int .i64 0, .int .u32 0, .int .u32 0, .int .u64 0, .string ⟨#[]⟩, .string ⟨#[]⟩, .string ⟨#[]⟩, .string ⟨#[]⟩, .string ⟨#[]⟩, .string ⟨#[]⟩, .string ⟨#[]⟩, .string ⟨#[]⟩, .string ⟨#[]⟩])
  have HO := hide ((Only.refl [] w).alloc (.cells #[.int .i64 0, .int .u32 0, .int .u32 0, .int .u64 0, .string ⟨#[]⟩, .string ⟨#[]⟩, .string ⟨#[]⟩, .string ⟨#[]⟩, .string ⟨#[]⟩, .string ⟨#[]⟩, .string ⟨#[]⟩, .string ⟨#[]⟩, .string ⟨#[]⟩] 53))
  have d0 := (cell_only HO.out hg (by simp)).trans h0
  have d1 := (cell_only HO.out hg (by simp)).trans h1
  have d2 := (cell_only HO.out hg (by simp)).trans h2
  have d3 := (cell_only HO.out hg (by simp)).trans h3
  have d4 := (cell_only HO.out hg (by simp)).trans h4
  go_enter Tryd.func72, Tryd.ntmps72
  go_wp2_with fail
  generalize (w.alloc (.cells #[.int .i64 0, .int .u32 0, .int .u32 0, .int .u64 0, .string ⟨#[]⟩, .string ⟨#[]⟩, .string ⟨#[]⟩, .string ⟨#[]⟩, .string ⟨#[]⟩, .string ⟨#[]⟩, .string ⟨#[]⟩, .string ⟨#[]⟩, .string ⟨#[]⟩] 53)) = W at *
  have r0 := HRB.out.cell 0
  have r1 := HRB.out.cell 1
  have r2 := HRB.out.cell 2
  have r3 := HRB.out.cell 3
  have r4 := HRB.out.cell 4
  have r5 := HRB.out.cell 5
  have r6 := HRB.out.cell 6
  have r7 := HRB.out.cell 7
  have r8 := HRB.out.cell 8
  have r9 := HRB.out.cell 9
  have r10 := HRB.out.cell 10
  have r11 := HRB.out.cell 11
  have r12 := HRB.out.cell 12
  simp at r0 r1 r2 r3 r4 r5 r6 r7 r8 r9 r10 r11 r12
  have rf := HRB.out.frozen
  go_still_tail 17, (by kernel_rfl)
  change wpList _ _ _ _ _ W.drew
  go_wp2_with fail
  refine bodyPost_ret (results_cell_row rfl _ _ w.heap.size 53 _ (0, 0) _ rfl ((set13 HRB.out (.int .i64 1) (.int .u32 (s : Nat)) (.int .u32 0) (.int .u64 0) (.string x0) (.string x1) (.string x2) (.string ⟨#[]⟩) (.string ⟨#[]⟩) (.string ⟨#[]⟩) (.string ⟨#[]⟩) (.string x3) (.string x4)).drew) Tryd.underlying53 rfl (by kernel_rfl)) rfl ?_
  exact ⟨rfl, (only13 HO.out (.inr (Nat.le_refl _)) (.int .i64 1) (.int .u32 (s : Nat)) (.int .u32 0) (.int .u64 0) (.string x0) (.string x1) (.string x2) (.string ⟨#[]⟩) (.string ⟨#[]⟩) (.string ⟨#[]⟩) (.string ⟨#[]⟩) (.string x3) (.string x4)).drew⟩

set_option maxRecDepth 100000 in
set_option maxHeartbeats 6400000 in
theorem With_2 (w : World) (s r c : Nat) (g o cap : Nat) (x0 x1 x2 x3 : ByteArray) (hc : 4 ≤ cap) (h0 : w.cell? ⟨g, o, none⟩ = some (.string x0)) (h1 : w.cell? ⟨g, o + 1, none⟩ = some (.string x1)) (h2 : w.cell? ⟨g, o + 2, none⟩ = some (.string x2)) (h3 : w.cell? ⟨g, o + 3, none⟩ = some (.string x3)) :
    Calls Tryd.prog 72 #[.int .i64 2, .int .u32 (s : Nat), .int .u32 (r : Nat), .int .u64 (c : Nat), .slice (some ⟨g, o, none⟩) 4 cap] w fun e w' =>
      e = .returned (.agg #[.int .i64 2, .int .u32 (s : Nat), .int .u32 (r : Nat), .int .u64 0, .string x0, .string ⟨#[]⟩, .string ⟨#[]⟩, .string x1, .string ⟨#[]⟩, .string ⟨#[]⟩, .string ⟨#[]⟩, .string x2, .string x3]) ∧ Only [] w w' := by
  have hg : g < w.heap.size := by have := World.block_lt_of_cell? w _ h0; simpa using this
  have HRB := hide (Blk.new w 53 #[.int .i64 0, .int .u32 0, .int .u32 0, .int .u64 0, .string ⟨#[]⟩, .string ⟨#[]⟩, .string ⟨#[]⟩, .string ⟨#[]⟩, .string ⟨#[]⟩, .string ⟨#[]⟩, .string ⟨#[]⟩, .string ⟨#[]⟩, .string ⟨#[]⟩])
  have HO := hide ((Only.refl [] w).alloc (.cells #[.int .i64 0, .int .u32 0, .int .u32 0, .int .u64 0, .string ⟨#[]⟩, .string ⟨#[]⟩, .string ⟨#[]⟩, .string ⟨#[]⟩, .string ⟨#[]⟩, .string ⟨#[]⟩, .string ⟨#[]⟩, .string ⟨#[]⟩, .string ⟨#[]⟩] 53))
  have d0 := (cell_only HO.out hg (by simp)).trans h0
  have d1 := (cell_only HO.out hg (by simp)).trans h1
  have d2 := (cell_only HO.out hg (by simp)).trans h2
  have d3 := (cell_only HO.out hg (by simp)).trans h3
  go_enter Tryd.func72, Tryd.ntmps72
  go_wp2_with fail
  generalize (w.alloc (.cells #[.int .i64 0, .int .u32 0, .int .u32 0, .int .u64 0, .string ⟨#[]⟩, .string ⟨#[]⟩, .string ⟨#[]⟩, .string ⟨#[]⟩, .string ⟨#[]⟩, .string ⟨#[]⟩, .string ⟨#[]⟩, .string ⟨#[]⟩, .string ⟨#[]⟩] 53)) = W at *
  have r0 := HRB.out.cell 0
  have r1 := HRB.out.cell 1
  have r2 := HRB.out.cell 2
  have r3 := HRB.out.cell 3
  have r4 := HRB.out.cell 4
  have r5 := HRB.out.cell 5
  have r6 := HRB.out.cell 6
  have r7 := HRB.out.cell 7
  have r8 := HRB.out.cell 8
  have r9 := HRB.out.cell 9
  have r10 := HRB.out.cell 10
  have r11 := HRB.out.cell 11
  have r12 := HRB.out.cell 12
  simp at r0 r1 r2 r3 r4 r5 r6 r7 r8 r9 r10 r11 r12
  have rf := HRB.out.frozen
  go_still_tail 15, (by kernel_rfl)
  change wpList _ _ _ _ _ W.drew
  go_wp2_with fail
  refine bodyPost_ret (results_cell_row rfl _ _ w.heap.size 53 _ (0, 0) _ rfl ((set13 HRB.out (.int .i64 2) (.int .u32 (s : Nat)) (.int .u32 (r : Nat)) (.int .u64 0) (.string x0) (.string ⟨#[]⟩) (.string ⟨#[]⟩) (.string x1) (.string ⟨#[]⟩) (.string ⟨#[]⟩) (.string ⟨#[]⟩) (.string x2) (.string x3)).drew) Tryd.underlying53 rfl (by kernel_rfl)) rfl ?_
  exact ⟨rfl, (only13 HO.out (.inr (Nat.le_refl _)) (.int .i64 2) (.int .u32 (s : Nat)) (.int .u32 (r : Nat)) (.int .u64 0) (.string x0) (.string ⟨#[]⟩) (.string ⟨#[]⟩) (.string x1) (.string ⟨#[]⟩) (.string ⟨#[]⟩) (.string ⟨#[]⟩) (.string x2) (.string x3)).drew⟩

set_option maxRecDepth 100000 in
set_option maxHeartbeats 6400000 in
theorem With_3 (w : World) (s r c : Nat) (g o cap : Nat) (x0 x1 : ByteArray) (hc : 2 ≤ cap) (h0 : w.cell? ⟨g, o, none⟩ = some (.string x0)) (h1 : w.cell? ⟨g, o + 1, none⟩ = some (.string x1)) :
    Calls Tryd.prog 72 #[.int .i64 3, .int .u32 (s : Nat), .int .u32 (r : Nat), .int .u64 (c : Nat), .slice (some ⟨g, o, none⟩) 2 cap] w fun e w' =>
      e = .returned (.agg #[.int .i64 3, .int .u32 0, .int .u32 (r : Nat), .int .u64 0, .string ⟨#[]⟩, .string ⟨#[]⟩, .string ⟨#[]⟩, .string ⟨#[]⟩, .string x0, .string x1, .string ⟨#[]⟩, .string ⟨#[]⟩, .string ⟨#[]⟩]) ∧ Only [] w w' := by
  have hg : g < w.heap.size := by have := World.block_lt_of_cell? w _ h0; simpa using this
  have HRB := hide (Blk.new w 53 #[.int .i64 0, .int .u32 0, .int .u32 0, .int .u64 0, .string ⟨#[]⟩, .string ⟨#[]⟩, .string ⟨#[]⟩, .string ⟨#[]⟩, .string ⟨#[]⟩, .string ⟨#[]⟩, .string ⟨#[]⟩, .string ⟨#[]⟩, .string ⟨#[]⟩])
  have HO := hide ((Only.refl [] w).alloc (.cells #[.int .i64 0, .int .u32 0, .int .u32 0, .int .u64 0, .string ⟨#[]⟩, .string ⟨#[]⟩, .string ⟨#[]⟩, .string ⟨#[]⟩, .string ⟨#[]⟩, .string ⟨#[]⟩, .string ⟨#[]⟩, .string ⟨#[]⟩, .string ⟨#[]⟩] 53))
  have d0 := (cell_only HO.out hg (by simp)).trans h0
  have d1 := (cell_only HO.out hg (by simp)).trans h1
  go_enter Tryd.func72, Tryd.ntmps72
  go_wp2_with fail
  generalize (w.alloc (.cells #[.int .i64 0, .int .u32 0, .int .u32 0, .int .u64 0, .string ⟨#[]⟩, .string ⟨#[]⟩, .string ⟨#[]⟩, .string ⟨#[]⟩, .string ⟨#[]⟩, .string ⟨#[]⟩, .string ⟨#[]⟩, .string ⟨#[]⟩, .string ⟨#[]⟩] 53)) = W at *
  have r0 := HRB.out.cell 0
  have r1 := HRB.out.cell 1
  have r2 := HRB.out.cell 2
  have r3 := HRB.out.cell 3
  have r4 := HRB.out.cell 4
  have r5 := HRB.out.cell 5
  have r6 := HRB.out.cell 6
  have r7 := HRB.out.cell 7
  have r8 := HRB.out.cell 8
  have r9 := HRB.out.cell 9
  have r10 := HRB.out.cell 10
  have r11 := HRB.out.cell 11
  have r12 := HRB.out.cell 12
  simp at r0 r1 r2 r3 r4 r5 r6 r7 r8 r9 r10 r11 r12
  have rf := HRB.out.frozen
  go_still_tail 8, (by kernel_rfl)
  change wpList _ _ _ _ _ W.drew
  go_wp2_with fail
  refine bodyPost_ret (results_cell_row rfl _ _ w.heap.size 53 _ (0, 0) _ rfl ((set13 HRB.out (.int .i64 3) (.int .u32 0) (.int .u32 (r : Nat)) (.int .u64 0) (.string ⟨#[]⟩) (.string ⟨#[]⟩) (.string ⟨#[]⟩) (.string ⟨#[]⟩) (.string x0) (.string x1) (.string ⟨#[]⟩) (.string ⟨#[]⟩) (.string ⟨#[]⟩)).drew) Tryd.underlying53 rfl (by kernel_rfl)) rfl ?_
  exact ⟨rfl, (only13 HO.out (.inr (Nat.le_refl _)) (.int .i64 3) (.int .u32 0) (.int .u32 (r : Nat)) (.int .u64 0) (.string ⟨#[]⟩) (.string ⟨#[]⟩) (.string ⟨#[]⟩) (.string ⟨#[]⟩) (.string x0) (.string x1) (.string ⟨#[]⟩) (.string ⟨#[]⟩) (.string ⟨#[]⟩)).drew⟩

set_option maxRecDepth 100000 in
set_option maxHeartbeats 6400000 in
theorem With_4 (w : World) (s r c : Nat) (g o cap : Nat) (x0 : ByteArray) (hc : 1 ≤ cap) (h0 : w.cell? ⟨g, o, none⟩ = some (.string x0)) :
    Calls Tryd.prog 72 #[.int .i64 4, .int .u32 (s : Nat), .int .u32 (r : Nat), .int .u64 (c : Nat), .slice (some ⟨g, o, none⟩) 1 cap] w fun e w' =>
      e = .returned (.agg #[.int .i64 4, .int .u32 0, .int .u32 (r : Nat), .int .u64 (c : Nat), .string ⟨#[]⟩, .string ⟨#[]⟩, .string ⟨#[]⟩, .string ⟨#[]⟩, .string ⟨#[]⟩, .string ⟨#[]⟩, .string x0, .string ⟨#[]⟩, .string ⟨#[]⟩]) ∧ Only [] w w' := by
  have hg : g < w.heap.size := by have := World.block_lt_of_cell? w _ h0; simpa using this
  have HRB := hide (Blk.new w 53 #[.int .i64 0, .int .u32 0, .int .u32 0, .int .u64 0, .string ⟨#[]⟩, .string ⟨#[]⟩, .string ⟨#[]⟩, .string ⟨#[]⟩, .string ⟨#[]⟩, .string ⟨#[]⟩, .string ⟨#[]⟩, .string ⟨#[]⟩, .string ⟨#[]⟩])
  have HO := hide ((Only.refl [] w).alloc (.cells #[.int .i64 0, .int .u32 0, .int .u32 0, .int .u64 0, .string ⟨#[]⟩, .string ⟨#[]⟩, .string ⟨#[]⟩, .string ⟨#[]⟩, .string ⟨#[]⟩, .string ⟨#[]⟩, .string ⟨#[]⟩, .string ⟨#[]⟩, .string ⟨#[]⟩] 53))
  have d0 := (cell_only HO.out hg (by simp)).trans h0
  go_enter Tryd.func72, Tryd.ntmps72
  go_upto_region 8 with fail
  generalize (w.alloc (.cells #[.int .i64 0, .int .u32 0, .int .u32 0, .int .u64 0, .string ⟨#[]⟩, .string ⟨#[]⟩, .string ⟨#[]⟩, .string ⟨#[]⟩, .string ⟨#[]⟩, .string ⟨#[]⟩, .string ⟨#[]⟩, .string ⟨#[]⟩, .string ⟨#[]⟩] 53)) = W at *
  have r0 := HRB.out.cell 0
  have r1 := HRB.out.cell 1
  have r2 := HRB.out.cell 2
  have r3 := HRB.out.cell 3
  have r4 := HRB.out.cell 4
  have r5 := HRB.out.cell 5
  have r6 := HRB.out.cell 6
  have r7 := HRB.out.cell 7
  have r8 := HRB.out.cell 8
  have r9 := HRB.out.cell 9
  have r10 := HRB.out.cell 10
  have r11 := HRB.out.cell 11
  have r12 := HRB.out.cell 12
  simp at r0 r1 r2 r3 r4 r5 r6 r7 r8 r9 r10 r11 r12
  have rf := HRB.out.frozen
  go_wp2_with fail
  refine bodyPost_ret (results_cell_row rfl _ _ w.heap.size 53 _ (0, 0) _ rfl ((set13 HRB.out (.int .i64 4) (.int .u32 0) (.int .u32 (r : Nat)) (.int .u64 (c : Nat)) (.string ⟨#[]⟩) (.string ⟨#[]⟩) (.string ⟨#[]⟩) (.string ⟨#[]⟩) (.string ⟨#[]⟩) (.string ⟨#[]⟩) (.string x0) (.string ⟨#[]⟩) (.string ⟨#[]⟩))) Tryd.underlying53 rfl (by kernel_rfl)) rfl ?_
  exact ⟨rfl, (only13 HO.out (.inr (Nat.le_refl _)) (.int .i64 4) (.int .u32 0) (.int .u32 (r : Nat)) (.int .u64 (c : Nat)) (.string ⟨#[]⟩) (.string ⟨#[]⟩) (.string ⟨#[]⟩) (.string ⟨#[]⟩) (.string ⟨#[]⟩) (.string ⟨#[]⟩) (.string x0) (.string ⟨#[]⟩) (.string ⟨#[]⟩))⟩
end
section
open Go.RowKit Go.Deep

set_option maxRecDepth 100000 in
set_option maxHeartbeats 12800000 in
theorem RightR_1 (w : World) (s r c : Nat) (x4 x5 x6 x7 x8 x9 x10 x11 x12 : ByteArray) (hF : (Mg.mk 1 s r c x4 x5 x6 x7 x8 x9 x10 x11 x12).Fine) : Calls Tryd.prog 36 #[.agg #[.int .i64 1, .int .u32 (s : Nat), .int .u32 (r : Nat), .int .u64 (c : Nat), .string x4, .string x5, .string x6, .string x7, .string x8, .string x9, .string x10, .string x11, .string x12]] w (RetB (rightM (Mg.mk 1 s r c x4 x5 x6 x7 x8 x9 x10 x11 x12)) w) := by
  obtain ⟨hs, hr, hc, hx4, hx5, hx6, hx7, hx8, hx9, hx10, hx11, hx12⟩ := hF
  simp only at hs hr hc hx4 hx5 hx6 hx7 hx8 hx9 hx10 hx11 hx12
  have HTR := hide (fun W => TermsR_1 W s r c x4 x5 x6 x7 x8 x9 x10 x11 x12)
  unfold TermsRPost at HTR
  rw [show (textsM (Mg.mk 1 s r c x4 x5 x6 x7 x8 x9 x10 x11 x12)).length = 5 from rfl] at HTR
  have HMB := hide (Blk.new w 53 #[.int .i64 1, .int .u32 (s : Nat), .int .u32 (r : Nat), .int .u64 (c : Nat), .string x4, .string x5, .string x6, .string x7, .string x8, .string x9, .string x10, .string x11, .string x12])
  have HO := hide ((Only.refl [] w).alloc (.cells #[.int .i64 1, .int .u32 (s : Nat), .int .u32 (r : Nat), .int .u64 (c : Nat), .string x4, .string x5, .string x6, .string x7, .string x8, .string x9, .string x10, .string x11, .string x12] 53))
  have m0 := HMB.out.cell 0; have m1 := HMB.out.cell 1; have m2 := HMB.out.cell 2; have m3 := HMB.out.cell 3; have m4 := HMB.out.cell 4; have m5 := HMB.out.cell 5; have m6 := HMB.out.cell 6; have m7 := HMB.out.cell 7; have m8 := HMB.out.cell 8; have m9 := HMB.out.cell 9; have m10 := HMB.out.cell 10; have m11 := HMB.out.cell 11; have m12 := HMB.out.cell 12; simp at m0 m1 m2 m3 m4 m5 m6 m7 m8 m9 m10 m11 m12
  go_enter Tryd.func36, Tryd.ntmps36
  go_upto_region 5 with (go_at_call 42; refine (HTR.out _).mono ?_; rintro e v0 ⟨g, rfl, hg, hb, ho⟩; have HTB := hide (show Blk v0 g 9 #[.string x4, .string x5, .string x6, .string x11, .string x12] from hb); replace HMB := hide (HMB.out.only ho (by simp)); replace HO := hide (HO.out.trans ho); clear hg hb ho m0 m1 m2 m3 m4 m5 m6 m7 m8 m9 m10 m11 m12)
  refine wp_loop_rounds 6 ?_
  rw [rounds_succ]
  have cj := HTB.out.cell 0; simp at cj
  by_cases hz : 65535 < x4.size
  case pos =>
    have hzI : (65535 : Int) < x4.size := by omega
    have HV := hide (show rightM (Mg.mk 1 s r c x4 x5 x6 x7 x8 x9 x10 x11 x12) = false by simp [rightM, textsM, show fitW x4 = false by unfold fitW; rw [decide_eq_false (by omega)]; rfl])
    clear hz
    go_wp2_with fail
    go_ret
    exact retb HV.out HO.out
  have hzI : ¬ (65535 : Int) < x4.size := by omega
  have HIS := hide (fun W => isR_all W x4 hx4)
  unfold RetB at HIS
  cases hp : (parseV x4).isSome
  case false =>
    rw [hp] at HIS
    have HV := hide (show rightM (Mg.mk 1 s r c x4 x5 x6 x7 x8 x9 x10 x11 x12) = false by simp [rightM, textsM, show fitW x4 = false by unfold fitW; rw [hp, Bool.and_false]])
    clear hz hp
    go_wp2_with (go_at_call 12; refine (HIS.out _).mono ?_; rintro e w3 ⟨rfl, ho⟩; replace HO := hide (HO.out.trans ho); clear ho)
    go_ret
    exact retb HV.out HO.out
  rw [hp] at HIS
  have HB4 := hide (show fitW x4 = true by unfold fitW; rw [hp, Bool.and_true]; exact decide_eq_true (by omega))
  clear hz hp
  go_wp2_with (go_at_call 12; refine (HIS.out _).mono ?_; rintro e v1 ⟨rfl, ho⟩; replace HMB := hide (HMB.out.only ho (by simp)); replace HTB := hide (HTB.out.only ho (by simp)); replace HO := hide (HO.out.trans ho); clear ho)
  clear cj HIS hzI
  rw [rounds_succ]
  have cj := HTB.out.cell 1; simp at cj
  by_cases hz : 65535 < x5.size
  case pos =>
    have hzI : (65535 : Int) < x5.size := by omega
    have HV := hide (show rightM (Mg.mk 1 s r c x4 x5 x6 x7 x8 x9 x10 x11 x12) = false by simp [rightM, textsM, show fitW x5 = false by unfold fitW; rw [decide_eq_false (by omega)]; rfl])
    clear hz
    go_wp2_with fail
    go_ret
    exact retb HV.out HO.out
  have hzI : ¬ (65535 : Int) < x5.size := by omega
  have HIS := hide (fun W => isR_all W x5 hx5)
  unfold RetB at HIS
  cases hp : (parseV x5).isSome
  case false =>
    rw [hp] at HIS
    have HV := hide (show rightM (Mg.mk 1 s r c x4 x5 x6 x7 x8 x9 x10 x11 x12) = false by simp [rightM, textsM, show fitW x5 = false by unfold fitW; rw [hp, Bool.and_false]])
    clear hz hp
    go_wp2_with (go_at_call 12; refine (HIS.out _).mono ?_; rintro e w3 ⟨rfl, ho⟩; replace HO := hide (HO.out.trans ho); clear ho)
    go_ret
    exact retb HV.out HO.out
  rw [hp] at HIS
  have HB5 := hide (show fitW x5 = true by unfold fitW; rw [hp, Bool.and_true]; exact decide_eq_true (by omega))
  clear hz hp
  go_wp2_with (go_at_call 12; refine (HIS.out _).mono ?_; rintro e v2 ⟨rfl, ho⟩; replace HMB := hide (HMB.out.only ho (by simp)); replace HTB := hide (HTB.out.only ho (by simp)); replace HO := hide (HO.out.trans ho); clear ho)
  clear cj HIS hzI
  rw [rounds_succ]
  have cj := HTB.out.cell 2; simp at cj
  by_cases hz : 65535 < x6.size
  case pos =>
    have hzI : (65535 : Int) < x6.size := by omega
    have HV := hide (show rightM (Mg.mk 1 s r c x4 x5 x6 x7 x8 x9 x10 x11 x12) = false by simp [rightM, textsM, show fitW x6 = false by unfold fitW; rw [decide_eq_false (by omega)]; rfl])
    clear hz
    go_wp2_with fail
    go_ret
    exact retb HV.out HO.out
  have hzI : ¬ (65535 : Int) < x6.size := by omega
  have HIS := hide (fun W => isR_all W x6 hx6)
  unfold RetB at HIS
  cases hp : (parseV x6).isSome
  case false =>
    rw [hp] at HIS
    have HV := hide (show rightM (Mg.mk 1 s r c x4 x5 x6 x7 x8 x9 x10 x11 x12) = false by simp [rightM, textsM, show fitW x6 = false by unfold fitW; rw [hp, Bool.and_false]])
    clear hz hp
    go_wp2_with (go_at_call 12; refine (HIS.out _).mono ?_; rintro e w3 ⟨rfl, ho⟩; replace HO := hide (HO.out.trans ho); clear ho)
    go_ret
    exact retb HV.out HO.out
  rw [hp] at HIS
  have HB6 := hide (show fitW x6 = true by unfold fitW; rw [hp, Bool.and_true]; exact decide_eq_true (by omega))
  clear hz hp
  go_wp2_with (go_at_call 12; refine (HIS.out _).mono ?_; rintro e v3 ⟨rfl, ho⟩; replace HMB := hide (HMB.out.only ho (by simp)); replace HTB := hide (HTB.out.only ho (by simp)); replace HO := hide (HO.out.trans ho); clear ho)
  clear cj HIS hzI
  rw [rounds_succ]
  have cj := HTB.out.cell 3; simp at cj
  by_cases hz : 65535 < x11.size
  case pos =>
    have hzI : (65535 : Int) < x11.size := by omega
    have HV := hide (show rightM (Mg.mk 1 s r c x4 x5 x6 x7 x8 x9 x10 x11 x12) = false by simp [rightM, textsM, show fitW x11 = false by unfold fitW; rw [decide_eq_false (by omega)]; rfl])
    clear hz
    go_wp2_with fail
    go_ret
    exact retb HV.out HO.out
  have hzI : ¬ (65535 : Int) < x11.size := by omega
  have HIS := hide (fun W => isR_all W x11 hx11)
  unfold RetB at HIS
  cases hp : (parseV x11).isSome
  case false =>
    rw [hp] at HIS
    have HV := hide (show rightM (Mg.mk 1 s r c x4 x5 x6 x7 x8 x9 x10 x11 x12) = false by simp [rightM, textsM, show fitW x11 = false by unfold fitW; rw [hp, Bool.and_false]])
    clear hz hp
    go_wp2_with (go_at_call 12; refine (HIS.out _).mono ?_; rintro e w3 ⟨rfl, ho⟩; replace HO := hide (HO.out.trans ho); clear ho)
    go_ret
    exact retb HV.out HO.out
  rw [hp] at HIS
  have HB11 := hide (show fitW x11 = true by unfold fitW; rw [hp, Bool.and_true]; exact decide_eq_true (by omega))
  clear hz hp
  go_wp2_with (go_at_call 12; refine (HIS.out _).mono ?_; rintro e v4 ⟨rfl, ho⟩; replace HMB := hide (HMB.out.only ho (by simp)); replace HTB := hide (HTB.out.only ho (by simp)); replace HO := hide (HO.out.trans ho); clear ho)
  clear cj HIS hzI
  rw [rounds_succ]
  have cj := HTB.out.cell 4; simp at cj
  by_cases hz : 65535 < x12.size
  case pos =>
    have hzI : (65535 : Int) < x12.size := by omega
    have HV := hide (show rightM (Mg.mk 1 s r c x4 x5 x6 x7 x8 x9 x10 x11 x12) = false by simp [rightM, textsM, show fitW x12 = false by unfold fitW; rw [decide_eq_false (by omega)]; rfl])
    clear hz
    go_wp2_with fail
    go_ret
    exact retb HV.out HO.out
  have hzI : ¬ (65535 : Int) < x12.size := by omega
  have HIS := hide (fun W => isR_all W x12 hx12)
  unfold RetB at HIS
  cases hp : (parseV x12).isSome
  case false =>
    rw [hp] at HIS
    have HV := hide (show rightM (Mg.mk 1 s r c x4 x5 x6 x7 x8 x9 x10 x11 x12) = false by simp [rightM, textsM, show fitW x12 = false by unfold fitW; rw [hp, Bool.and_false]])
    clear hz hp
    go_wp2_with (go_at_call 12; refine (HIS.out _).mono ?_; rintro e w3 ⟨rfl, ho⟩; replace HO := hide (HO.out.trans ho); clear ho)
    go_ret
    exact retb HV.out HO.out
  rw [hp] at HIS
  have HB12 := hide (show fitW x12 = true by unfold fitW; rw [hp, Bool.and_true]; exact decide_eq_true (by omega))
  clear hz hp
  go_wp2_with (go_at_call 12; refine (HIS.out _).mono ?_; rintro e v5 ⟨rfl, ho⟩; replace HMB := hide (HMB.out.only ho (by simp)); replace HTB := hide (HTB.out.only ho (by simp)); replace HO := hide (HO.out.trans ho); clear ho)
  clear cj HIS hzI
  rw [rounds_succ]
  have heq : ∀ W : World, (binOp .eql 53 (.agg #[.int .i64 1, .int .u32 (s : Nat), .int .u32 0, .int .u64 0, .string x4, .string x5, .string x6, .string ⟨#[]⟩, .string ⟨#[]⟩, .string ⟨#[]⟩, .string ⟨#[]⟩, .string x11, .string x12]) (.agg #[.int .i64 1, .int .u32 (s : Nat), .int .u32 (r : Nat), .int .u64 (c : Nat), .string x4, .string x5, .string x6, .string x7, .string x8, .string x9, .string x10, .string x11, .string x12])).run Tryd.prog W = .ok (.bool (eqM (onlyM (Mg.mk 1 s r c x4 x5 x6 x7 x8 x9 x10 x11 x12)) (Mg.mk 1 s r c x4 x5 x6 x7 x8 x9 x10 x11 x12))) W := fun W => msg_eql (onlyM (Mg.mk 1 s r c x4 x5 x6 x7 x8 x9 x10 x11 x12)) (Mg.mk 1 s r c x4 x5 x6 x7 x8 x9 x10 x11 x12) W
  have HV := hide (show rightM (Mg.mk 1 s r c x4 x5 x6 x7 x8 x9 x10 x11 x12) = eqM (onlyM (Mg.mk 1 s r c x4 x5 x6 x7 x8 x9 x10 x11 x12)) (Mg.mk 1 s r c x4 x5 x6 x7 x8 x9 x10 x11 x12) by simp [rightM, textsM, HB4.out, HB5.out, HB6.out, HB11.out, HB12.out])
  generalize eqM (onlyM (Mg.mk 1 s r c x4 x5 x6 x7 x8 x9 x10 x11 x12)) (Mg.mk 1 s r c x4 x5 x6 x7 x8 x9 x10 x11 x12) = B at *
  have HW := hide (fun W (h0 : W.cell? ⟨g, 0, none⟩ = some (.string x4)) (h1 : W.cell? ⟨g, 1, none⟩ = some (.string x5)) (h2 : W.cell? ⟨g, 2, none⟩ = some (.string x6)) (h3 : W.cell? ⟨g, 3, none⟩ = some (.string x11)) (h4 : W.cell? ⟨g, 4, none⟩ = some (.string x12)) => With_1 W s r c g 0 5 x4 x5 x6 x11 x12 (by omega) (by first | exact h0 | simpa using h0) (by first | exact h1 | simpa using h1) (by first | exact h2 | simpa using h2) (by first | exact h3 | simpa using h3) (by first | exact h4 | simpa using h4))
  go_wp2_with fail
  refine wp_region_held_drew (S := fun W => Only [] v5 W) (by kernel_rfl) (by exact (Only.refl [] v5).drew) (fun hHeld => ?_)
  refine wpAnyH_take (i := 0) (v := ?_) rfl (by kernel_rfl) (by kernel_rfl) (by kernel_rfl) (fun _ _ _ h => h) (Or.inl ⟨by rfl, ?_⟩) (by assumption) ?_
  rotate_left
  · (intro w hSw; (try dsimp only at hSw); go_simp; try with_reducible rfl)
  try simp only [List.getElem_toArray, List.getElem_cons_succ, List.getElem_cons_zero, Act.put, List.setIfInBounds_toArray, List.set_cons_zero, List.set_cons_succ]
  refine wpAnyH_take (i := 1) (v := ?_) rfl (by kernel_rfl) (by kernel_rfl) (by kernel_rfl) (fun _ _ _ h => h) (Or.inl ⟨by rfl, ?_⟩) (by assumption) ?_
  rotate_left
  · (intro w hSw; (try dsimp only at hSw); have HMw := HMB.out.only hSw (by simp); have m0 := (hide HMw).out.cell 0; simp at m0; go_simp; try with_reducible rfl)
  try simp only [List.getElem_toArray, List.getElem_cons_succ, List.getElem_cons_zero, Act.put, List.setIfInBounds_toArray, List.set_cons_zero, List.set_cons_succ]
  refine wpAnyH_take (i := 2) (v := ?_) rfl (by kernel_rfl) (by kernel_rfl) (by kernel_rfl) (fun _ _ _ h => h) (Or.inl ⟨by rfl, ?_⟩) (by assumption) ?_
  rotate_left
  · (intro w hSw; (try dsimp only at hSw); go_simp; try with_reducible rfl)
  try simp only [List.getElem_toArray, List.getElem_cons_succ, List.getElem_cons_zero, Act.put, List.setIfInBounds_toArray, List.set_cons_zero, List.set_cons_succ]
  refine wpAnyH_take (i := 3) (v := ?_) rfl (by kernel_rfl) (by kernel_rfl) (by kernel_rfl) (fun _ _ _ h => h) (Or.inl ⟨by rfl, ?_⟩) (by assumption) ?_
  rotate_left
  · (intro w hSw; (try dsimp only at hSw); have HMw := HMB.out.only hSw (by simp); have m1 := (hide HMw).out.cell 1; simp at m1; go_simp; try with_reducible rfl)
  try simp only [List.getElem_toArray, List.getElem_cons_succ, List.getElem_cons_zero, Act.put, List.setIfInBounds_toArray, List.set_cons_zero, List.set_cons_succ]
  refine wpAnyH_take (i := 4) (v := ?_) rfl (by kernel_rfl) (by kernel_rfl) (by kernel_rfl) (fun _ _ _ h => h) (Or.inl ⟨by rfl, ?_⟩) (by assumption) ?_
  rotate_left
  · (intro w hSw; (try dsimp only at hSw); go_simp; try with_reducible rfl)
  try simp only [List.getElem_toArray, List.getElem_cons_succ, List.getElem_cons_zero, Act.put, List.setIfInBounds_toArray, List.set_cons_zero, List.set_cons_succ]
  refine wpAnyH_take (i := 5) (v := ?_) rfl (by kernel_rfl) (by kernel_rfl) (by kernel_rfl) (fun _ _ _ h => h) (Or.inl ⟨by rfl, ?_⟩) (by assumption) ?_
  rotate_left
  · (intro w hSw; (try dsimp only at hSw); have HMw := HMB.out.only hSw (by simp); have m2 := (hide HMw).out.cell 2; simp at m2; go_simp; try with_reducible rfl)
  try simp only [List.getElem_toArray, List.getElem_cons_succ, List.getElem_cons_zero, Act.put, List.setIfInBounds_toArray, List.set_cons_zero, List.set_cons_succ]
  refine wpAnyH_take (i := 6) (v := ?_) rfl (by kernel_rfl) (by kernel_rfl) (by kernel_rfl) (fun _ _ _ h => h) (Or.inl ⟨by rfl, ?_⟩) (by assumption) ?_
  rotate_left
  · (intro w hSw; (try dsimp only at hSw); go_simp; try with_reducible rfl)
  try simp only [List.getElem_toArray, List.getElem_cons_succ, List.getElem_cons_zero, Act.put, List.setIfInBounds_toArray, List.set_cons_zero, List.set_cons_succ]
  refine wpAnyH_take (i := 7) (v := ?_) rfl (by kernel_rfl) (by kernel_rfl) (by kernel_rfl) (fun _ _ _ h => h) (Or.inl ⟨by rfl, ?_⟩) (by assumption) ?_
  rotate_left
  · (intro w hSw; (try dsimp only at hSw); have HMw := HMB.out.only hSw (by simp); have m3 := (hide HMw).out.cell 3; simp at m3; go_simp; try with_reducible rfl)
  try simp only [List.getElem_toArray, List.getElem_cons_succ, List.getElem_cons_zero, Act.put, List.setIfInBounds_toArray, List.set_cons_zero, List.set_cons_succ]
  refine wpAnyH_take (i := 8) (v := ?_) rfl (by kernel_rfl) (by kernel_rfl) (by kernel_rfl) (fun _ _ _ h => h) (Or.inl ⟨by rfl, ?_⟩) (by assumption) ?_
  rotate_left
  · (intro w hSw; (try dsimp only at hSw); go_simp; try with_reducible rfl)
  try simp only [List.getElem_toArray, List.getElem_cons_succ, List.getElem_cons_zero, Act.put, List.setIfInBounds_toArray, List.set_cons_zero, List.set_cons_succ]
  refine wpAnyH_take (i := 10) (v := ?_) rfl (by kernel_rfl) (by kernel_rfl) (by kernel_rfl) (fun _ _ _ h => h) (Or.inl ⟨by rfl, ?_⟩) (by assumption) ?_
  rotate_left
  · (intro w hSw; (try dsimp only at hSw); have HMw := HMB.out.only hSw (by simp); have m0 := (hide HMw).out.cell 0; have m1 := (hide HMw).out.cell 1; have m2 := (hide HMw).out.cell 2; have m3 := (hide HMw).out.cell 3; have m4 := (hide HMw).out.cell 4; have m5 := (hide HMw).out.cell 5; have m6 := (hide HMw).out.cell 6; have m7 := (hide HMw).out.cell 7; have m8 := (hide HMw).out.cell 8; have m9 := (hide HMw).out.cell 9; have m10 := (hide HMw).out.cell 10; have m11 := (hide HMw).out.cell 11; have m12 := (hide HMw).out.cell 12; simp at m0 m1 m2 m3 m4 m5 m6 m7 m8 m9 m10 m11 m12; go_simp; try with_reducible rfl)
  try simp only [List.getElem_toArray, List.getElem_cons_succ, List.getElem_cons_zero, Act.put, List.setIfInBounds_toArray, List.set_cons_zero, List.set_cons_succ]
  refine wpAnyH_ready (rs := [9]) (by kernel_rfl) (by simp) ?_
  refine AllReadyH.cons rfl (fun K hK => ?_) AllReadyH.nil
  go_simp
  (go_at_call 72; refine (HW.out _ (by have h := (HTB.out.only hHeld (by simp)).cell 0; simpa using h) (by have h := (HTB.out.only hHeld (by simp)).cell 1; simpa using h) (by have h := (HTB.out.only hHeld (by simp)).cell 2; simpa using h) (by have h := (HTB.out.only hHeld (by simp)).cell 3; simpa using h) (by have h := (HTB.out.only hHeld (by simp)).cell 4; simpa using h)).mono ?_; rintro e wz ⟨rfl, ho⟩)
  refine hK.out _ _ (by exact hHeld.trans ho) (fun hHeld => ?_)
  clear hK K ho
  try simp only [List.getElem_toArray, List.getElem_cons_succ, List.getElem_cons_zero, Act.put, List.setIfInBounds_toArray, List.set_cons_zero, List.set_cons_succ]
  refine wpAnyH_take (i := 11) (v := ?_) rfl (by kernel_rfl) (by kernel_rfl) (by kernel_rfl) (fun _ _ _ h => h) (Or.inl ⟨by rfl, ?_⟩) (by assumption) ?_
  rotate_left
  · (intro w hSw; (try dsimp only at hSw); go_simp; try with_reducible rfl)
  try simp only [List.getElem_toArray, List.getElem_cons_succ, List.getElem_cons_zero, Act.put, List.setIfInBounds_toArray, List.set_cons_zero, List.set_cons_succ]
  refine wpAnyH_take (i := 12) (v := ?_) rfl (by kernel_rfl) (by kernel_rfl) (by kernel_rfl) (fun _ _ _ h => h) (Or.inl ⟨by rfl, ?_⟩) (by assumption) ?_
  rotate_left
  · (intro w hSw; (try dsimp only at hSw); go_simp; try with_reducible rfl)
  try simp only [List.getElem_toArray, List.getElem_cons_succ, List.getElem_cons_zero, Act.put, List.setIfInBounds_toArray, List.set_cons_zero, List.set_cons_succ]
  refine wpAnyH_done (by kernel_rfl) ?_ _
  go_wp2_with fail
  go_ret
  exact retb HV.out (HO.out.trans hHeld)
end
section
open Go.RowKit Go.Deep

set_option maxRecDepth 100000 in
set_option maxHeartbeats 12800000 in
theorem Body_1 (w : World) (s r c : Nat) (x4 x5 x6 x7 x8 x9 x10 x11 x12 : ByteArray) (hF : (Mg.mk 1 s r c x4 x5 x6 x7 x8 x9 x10 x11 x12).Fine) (hR : rightM (Mg.mk 1 s r c x4 x5 x6 x7 x8 x9 x10 x11 x12) = true) (htab : Tab w) : Calls Tryd.prog 38 #[.agg #[.int .i64 1, .int .u32 (s : Nat), .int .u32 (r : Nat), .int .u64 (c : Nat), .string x4, .string x5, .string x6, .string x7, .string x8, .string x9, .string x10, .string x11, .string x12]] w (MakePost (bodyM (Mg.mk 1 s r c x4 x5 x6 x7 x8 x9 x10 x11 x12)) w) := by
  have HV := hide (show bodyM (Mg.mk 1 s r c x4 x5 x6 x7 x8 x9 x10 x11 x12) = makeV 11 0 [] ([numT 1, numT s, numT r] ++ [x4, x5, x6]) by unfold bodyM; rw [if_pos ⟨hR, by show (1 : Int) ≤ 2; omega⟩]; rfl)
  have HTM := hide (fun W => Terms_1 W s r c x4 x5 x6 x7 x8 x9 x10 x11 x12 hF)
  unfold TermsPost at HTM
  simp only [hR, if_true] at HTM
  obtain ⟨hs, hr, hc, hx4, hx5, hx6, hx7, hx8, hx9, hx10, hx11, hx12⟩ := hF
  simp only at hs hr hc hx4 hx5 hx6 hx7 hx8 hx9 hx10 hx11 hx12
  have hws : IntKind.u64.wrap (s : Int) = s := by rw [IntKind.wrap_u64]; omega
  have hwr : IntKind.u64.wrap (r : Int) = r := by rw [IntKind.wrap_u64]; omega
  obtain ⟨is, his, hs0, hs1, hs2⟩ := info_parts (show (Tryd.prog.info? 9).map (fun i => (i.zero, i.size, i.bytes)) = some (some (.string ByteArray.empty), 1, 16) by kernel_rfl)
  have HMB := hide (Blk.new w 53 #[.int .i64 1, .int .u32 (s : Nat), .int .u32 (r : Nat), .int .u64 (c : Nat), .string x4, .string x5, .string x6, .string x7, .string x8, .string x9, .string x10, .string x11, .string x12])
  have HO := hide ((Only.refl [] w).alloc (.cells #[.int .i64 1, .int .u32 (s : Nat), .int .u32 (r : Nat), .int .u64 (c : Nat), .string x4, .string x5, .string x6, .string x7, .string x8, .string x9, .string x10, .string x11, .string x12] 53))
  have HT := hide (htab.only HO.out (by simp))
  clear htab
  clear hR
  have m0 := HMB.out.cell 0; have m1 := HMB.out.cell 1; have m2 := HMB.out.cell 2; have m3 := HMB.out.cell 3; have m4 := HMB.out.cell 4; have m5 := HMB.out.cell 5; have m6 := HMB.out.cell 6; have m7 := HMB.out.cell 7; have m8 := HMB.out.cell 8; have m9 := HMB.out.cell 9; have m10 := HMB.out.cell 10; have m11 := HMB.out.cell 11; have m12 := HMB.out.cell 12; simp at m0 m1 m2 m3 m4 m5 m6 m7 m8 m9 m10 m11 m12
  go_enter Tryd.func38, Tryd.ntmps38
  go_upto_region 4 with (go_at_call 37; refine (HTM.out _).mono ?_; rintro e v1 ⟨ho, v, rfl, hrd⟩; obtain ⟨A, cap, hv, hcc, hmm⟩ := hrd.form; replace hv : v = .slice A 5 cap := hv; subst hv; replace hcc : 5 ≤ cap := hcc; have HRD := hide (show Rd v1 [] (.slice A 5 cap) (strs [x4, x5, x6, x11, x12]) from hrd); replace HMB := hide (HMB.out.only ho (by simp)); replace HO := hide (HO.out.trans ho); replace HT := hide (HT.out.only ho (by simp)); clear ho hrd m0 m1 m2 m3 m4 m5 m6 m7 m8 m9 m10 m11 m12; have m0 := HMB.out.cell 0; simp at m0)
  have hcI : (3 : Int) ≤ cap := by omega
  clear m0
  refine wp_region_held_drew (S := fun W => Only [] v1 W) (by kernel_rfl) (by exact (Only.refl [] v1).drew) (fun hHeld => ?_)
  refine wpAnyH_take (i := 0) (v := ?_) rfl (by kernel_rfl) (by kernel_rfl) (by kernel_rfl) (fun _ _ _ h => h) (Or.inl ⟨by rfl, ?_⟩) (by assumption) ?_
  rotate_left
  · (intro w hSw; (try dsimp only at hSw); go_simp; try with_reducible rfl)
  try simp only [List.getElem_toArray, List.getElem_cons_succ, List.getElem_cons_zero, Act.put, List.setIfInBounds_toArray, List.set_cons_zero, List.set_cons_succ]
  refine wpAnyH_take (i := 1) (v := ?_) rfl (by kernel_rfl) (by kernel_rfl) (by kernel_rfl) (fun _ _ _ h => h) (Or.inl ⟨by rfl, ?_⟩) (by assumption) ?_
  rotate_left
  · (intro w hSw; (try dsimp only at hSw); have HMw := HMB.out.only hSw (by simp); have m0 := (hide HMw).out.cell 0; simp at m0; go_simp; try with_reducible rfl)
  try simp only [List.getElem_toArray, List.getElem_cons_succ, List.getElem_cons_zero, Act.put, List.setIfInBounds_toArray, List.set_cons_zero, List.set_cons_succ]
  refine wpAnyH_take (i := 2) (v := ?_) rfl (by kernel_rfl) (by kernel_rfl) (by kernel_rfl) (fun _ _ _ h => h) (Or.inl ⟨by rfl, ?_⟩) (by assumption) ?_
  rotate_left
  · (intro w hSw; (try dsimp only at hSw); go_simp; try with_reducible rfl)
  try simp only [List.getElem_toArray, List.getElem_cons_succ, List.getElem_cons_zero, Act.put, List.setIfInBounds_toArray, List.set_cons_zero, List.set_cons_succ]
  refine wpAnyH_take (i := 4) (v := ?_) rfl (by kernel_rfl) (by kernel_rfl) (by kernel_rfl) (fun _ _ _ h => h) (Or.inl ⟨by rfl, ?_⟩) (by assumption) ?_
  rotate_left
  · (intro w hSw; (try dsimp only at hSw); go_simp; try with_reducible rfl)
  try simp only [List.getElem_toArray, List.getElem_cons_succ, List.getElem_cons_zero, Act.put, List.setIfInBounds_toArray, List.set_cons_zero, List.set_cons_succ]
  refine wpAnyH_take (i := 5) (v := ?_) rfl (by kernel_rfl) (by kernel_rfl) (by kernel_rfl) (fun _ _ _ h => h) (Or.inl ⟨by rfl, ?_⟩) (by assumption) ?_
  rotate_left
  · (intro w hSw; (try dsimp only at hSw); have HMw := HMB.out.only hSw (by simp); have m1 := (hide HMw).out.cell 1; simp at m1; go_simp; try with_reducible rfl)
  try simp only [List.getElem_toArray, List.getElem_cons_succ, List.getElem_cons_zero, Act.put, List.setIfInBounds_toArray, List.set_cons_zero, List.set_cons_succ]
  refine wpAnyH_take (i := 6) (v := ?_) rfl (by kernel_rfl) (by kernel_rfl) (by kernel_rfl) (fun _ _ _ h => h) (Or.inl ⟨by rfl, ?_⟩) (by assumption) ?_
  rotate_left
  · (intro w hSw; (try dsimp only at hSw); go_simp; try with_reducible rfl)
  try simp only [List.getElem_toArray, List.getElem_cons_succ, List.getElem_cons_zero, Act.put, List.setIfInBounds_toArray, List.set_cons_zero, List.set_cons_succ]
  refine wpAnyH_take (i := 8) (v := ?_) rfl (by kernel_rfl) (by kernel_rfl) (by kernel_rfl) (fun _ _ _ h => h) (Or.inl ⟨by rfl, ?_⟩) (by assumption) ?_
  rotate_left
  · (intro w hSw; (try dsimp only at hSw); go_simp; try with_reducible rfl)
  try simp only [List.getElem_toArray, List.getElem_cons_succ, List.getElem_cons_zero, Act.put, List.setIfInBounds_toArray, List.set_cons_zero, List.set_cons_succ]
  refine wpAnyH_take (i := 9) (v := ?_) rfl (by kernel_rfl) (by kernel_rfl) (by kernel_rfl) (fun _ _ _ h => h) (Or.inl ⟨by rfl, ?_⟩) (by assumption) ?_
  rotate_left
  · (intro w hSw; (try dsimp only at hSw); have HMw := HMB.out.only hSw (by simp); have m2 := (hide HMw).out.cell 2; simp at m2; go_simp; try with_reducible rfl)
  try simp only [List.getElem_toArray, List.getElem_cons_succ, List.getElem_cons_zero, Act.put, List.setIfInBounds_toArray, List.set_cons_zero, List.set_cons_succ]
  refine wpAnyH_take (i := 10) (v := ?_) rfl (by kernel_rfl) (by kernel_rfl) (by kernel_rfl) (fun _ _ _ h => h) (Or.inl ⟨by rfl, ?_⟩) (by assumption) ?_
  rotate_left
  · (intro w hSw; (try dsimp only at hSw); go_simp; try with_reducible rfl)
  try simp only [List.getElem_toArray, List.getElem_cons_succ, List.getElem_cons_zero, Act.put, List.setIfInBounds_toArray, List.set_cons_zero, List.set_cons_succ]
  refine wpAnyH_ready (rs := [3]) (by kernel_rfl) (by simp) ?_
  refine AllReadyH.cons rfl (fun K hK => ?_) AllReadyH.nil
  go_simp
  (go_at_call 11; refine (Make_any 3 (by decide) 1 (by omega) _ _ [] [] (by simp) _ (Rd.nil _ _) (Rd.nil _ _) (HT.out.only hHeld (by simp))).mono ?_; rintro e wz ⟨rfl, ho⟩)
  refine hK.out _ _ (by exact hHeld.trans ho) (fun hHeld => ?_)
  clear hK K ho
  try simp only [List.getElem_toArray, List.getElem_cons_succ, List.getElem_cons_zero, Act.put, List.setIfInBounds_toArray, List.set_cons_zero, List.set_cons_succ]
  refine wpAnyH_ready (rs := [7]) (by kernel_rfl) (by simp) ?_
  refine AllReadyH.cons rfl (fun K hK => ?_) AllReadyH.nil
  go_simp
  (go_at_call 11; refine (Make_any 3 (by decide) s (by omega) _ _ [] [] (by simp) _ (Rd.nil _ _) (Rd.nil _ _) (HT.out.only hHeld (by simp))).mono ?_; rintro e wz ⟨rfl, ho⟩)
  refine hK.out _ _ (by exact hHeld.trans ho) (fun hHeld => ?_)
  clear hK K ho
  try simp only [List.getElem_toArray, List.getElem_cons_succ, List.getElem_cons_zero, Act.put, List.setIfInBounds_toArray, List.set_cons_zero, List.set_cons_succ]
  refine wpAnyH_ready (rs := [11]) (by kernel_rfl) (by simp) ?_
  refine AllReadyH.cons rfl (fun K hK => ?_) AllReadyH.nil
  go_simp
  (go_at_call 11; refine (Make_any 3 (by decide) r (by omega) _ _ [] [] (by simp) _ (Rd.nil _ _) (Rd.nil _ _) (HT.out.only hHeld (by simp))).mono ?_; rintro e wz ⟨rfl, ho⟩)
  refine hK.out _ _ (by exact hHeld.trans ho) (fun hHeld => ?_)
  clear hK K ho
  try simp only [List.getElem_toArray, List.getElem_cons_succ, List.getElem_cons_zero, Act.put, List.setIfInBounds_toArray, List.set_cons_zero, List.set_cons_succ]
  refine wpAnyH_ready (rs := [12]) (by kernel_rfl) (by simp) ?_
  refine AllReadyH.cons rfl (fun K hK => ?_) AllReadyH.nil
  go_simp
  have HZ0 := hide hHeld.size
  refine hK.out _ _ (by exact hHeld.alloc _) (fun hHeld => ?_)
  clear hK K
  try simp only [List.getElem_toArray, List.getElem_cons_succ, List.getElem_cons_zero, Act.put, List.setIfInBounds_toArray, List.set_cons_zero, List.set_cons_succ]
  refine wpAnyH_take (i := 13) (v := ?_) rfl (by kernel_rfl) (by kernel_rfl) (by kernel_rfl) (fun _ _ _ h => h) (Or.inl ⟨by rfl, ?_⟩) (by assumption) ?_
  rotate_left
  · (intro w hSw; (try dsimp only at hSw); go_simp; try with_reducible rfl)
  try simp only [List.getElem_toArray, List.getElem_cons_succ, List.getElem_cons_zero, Act.put, List.setIfInBounds_toArray, List.set_cons_zero, List.set_cons_succ]
  refine wpAnyH_done (by kernel_rfl) ?_ _
  have hz1 := make_size' 3 1 [] [] (by omega)
  have hz2 := make_size' 3 s [] [] (by omega)
  have hz3 := make_size' 3 r [] [] (by omega)
  have HOW := hide (show (wz.alloc (.cells #[.string (makeV 3 1 [] []), .string (makeV 3 s [] []), .string (makeV 3 r [] [])] 9)).ownsRow wz.heap.size 9 1 (.slice (some ⟨wz.heap.size, 0, none⟩) 3 3) 3 (strs [numT 1, numT s, numT r]) from World.ownsRow_lit wz #[.string (makeV 3 1 [] []), .string (makeV 3 s [] []), .string (makeV 3 r [] [])] 3 (Nat.le_refl _) (by unfold maxLen; omega) rfl)
  have HHD := hide hHeld
  have HRT := hide (show Rd (wz.alloc (.cells #[.string (makeV 3 1 [] []), .string (makeV 3 s [] []), .string (makeV 3 r [] [])] 9)) [] (.slice A 3 cap) (strs [x4, x5, x6]) from (HRD.out.only hHeld (by simp)).take 3 (by omega))
  have HSZ := hide (show wz.heap.size ≤ (wz.alloc (.cells #[.string (makeV 3 1 [] []), .string (makeV 3 s [] []), .string (makeV 3 r [] [])] 9)).heap.size by simp)
  have HBZ := hide (show v1.heap.size ≤ wz.heap.size from HZ0.out)
  generalize (wz.alloc (.cells #[.string (makeV 3 1 [] []), .string (makeV 3 s [] []), .string (makeV 3 r [] [])] 9)) = wp at *
  have HPS := hide (show ∀ p ∈ [numT 1, numT s, numT r] ++ [x4, x5, x6], p.size ≤ maxLen by intro p hp; simp at hp; rcases hp with rfl | rfl | rfl | rfl | rfl | rfl; all_goals assumption)
  go_wp2_with (first | (at_builtin; refine wpList_append_any _ rfl (.tmp 33) (.tmp 38) 31 rfl wz.heap.size 9 is (.string ByteArray.empty) 1 16 Tryd.underlying31 his hs0 hs1 hs2 rfl (by decide) _ 3 _ rfl HOW.out wp.heap.size A 3 cap (strs [x4, x5, x6]) rfl HRT.out.reads (by intro u hu; obtain ⟨x, _, rfl⟩ := List.mem_map.1 hu; rfl) (by unfold maxLen; omega) (by omega) HSZ.out ?_; intro vv w3 hown1 hg1 _; have HOW3 := hide (show w3.ownsRow wz.heap.size 9 1 vv 6 (strs ([numT 1, numT s, numT r] ++ [x4, x5, x6])) from hown1); have HO3 := hide (show Only [] v1 w3 from HHD.out.grown hg1 (fun jj hjj => .inr (by have := own_block_ge HOW.out hjj; have := HBZ.out; omega))); clear hown1 hg1; obtain ⟨Av, cv, rfl, _, _⟩ := own_form HOW3.out) | (go_at_call 11; refine (Make_any 11 (by decide) 0 (by omega) _ _ [] ([numT 1, numT s, numT r] ++ [x4, x5, x6]) HPS.out _ (Rd.nil _ _) (Rd.of_own (N := []) HOW3.out (by simp)).1 (HT.out.only HO3.out (by simp))).mono ?_; rintro e wm ⟨rfl, ho⟩; have HOF := hide ((HO.out.trans HO3.out).trans ho); clear ho))
  go_ret
  exact makepost HV.out HOF.out

set_option maxRecDepth 100000 in
set_option maxHeartbeats 12800000 in
theorem BodyR_1 (w : World) (s r c : Nat) (x4 x5 x6 x7 x8 x9 x10 x11 x12 : ByteArray) (hF : (Mg.mk 1 s r c x4 x5 x6 x7 x8 x9 x10 x11 x12).Fine) (hR : rightM (Mg.mk 1 s r c x4 x5 x6 x7 x8 x9 x10 x11 x12) = true) : Calls Tryd.prog 43 #[.agg #[.int .i64 1, .int .u32 (s : Nat), .int .u32 (r : Nat), .int .u64 (c : Nat), .string x4, .string x5, .string x6, .string x7, .string x8, .string x9, .string x10, .string x11, .string x12]] w (MakePost (bodyM (Mg.mk 1 s r c x4 x5 x6 x7 x8 x9 x10 x11 x12)) w) := by
  have HV := hide (show bodyM (Mg.mk 1 s r c x4 x5 x6 x7 x8 x9 x10 x11 x12) = makeV 11 0 [] ([numT 1, numT s, numT r] ++ [x4, x5, x6]) by unfold bodyM; rw [if_pos ⟨hR, by show (1 : Int) ≤ 2; omega⟩]; rfl)
  have HRR := hide (fun W => RightR_1 W s r c x4 x5 x6 x7 x8 x9 x10 x11 x12 hF)
  unfold RetB at HRR
  rw [hR] at HRR
  have HTR := hide (fun W => TermsR_1 W s r c x4 x5 x6 x7 x8 x9 x10 x11 x12)
  unfold TermsRPost at HTR
  rw [show (textsM (Mg.mk 1 s r c x4 x5 x6 x7 x8 x9 x10 x11 x12)).length = 5 from rfl] at HTR
  obtain ⟨hs, hr, hc, hx4, hx5, hx6, hx7, hx8, hx9, hx10, hx11, hx12⟩ := hF
  simp only at hs hr hc hx4 hx5 hx6 hx7 hx8 hx9 hx10 hx11 hx12
  have hws : IntKind.u64.wrap (s : Int) = s := by rw [IntKind.wrap_u64]; omega
  have hwr : IntKind.u64.wrap (r : Int) = r := by rw [IntKind.wrap_u64]; omega
  obtain ⟨is, his, hs0, hs1, hs2⟩ := info_parts (show (Tryd.prog.info? 9).map (fun i => (i.zero, i.size, i.bytes)) = some (some (.string ByteArray.empty), 1, 16) by kernel_rfl)
  have HMB := hide (Blk.new w 53 #[.int .i64 1, .int .u32 (s : Nat), .int .u32 (r : Nat), .int .u64 (c : Nat), .string x4, .string x5, .string x6, .string x7, .string x8, .string x9, .string x10, .string x11, .string x12])
  have HO := hide ((Only.refl [] w).alloc (.cells #[.int .i64 1, .int .u32 (s : Nat), .int .u32 (r : Nat), .int .u64 (c : Nat), .string x4, .string x5, .string x6, .string x7, .string x8, .string x9, .string x10, .string x11, .string x12] 53))
  clear hR
  have m0 := HMB.out.cell 0; have m1 := HMB.out.cell 1; have m2 := HMB.out.cell 2; have m3 := HMB.out.cell 3; have m4 := HMB.out.cell 4; have m5 := HMB.out.cell 5; have m6 := HMB.out.cell 6; have m7 := HMB.out.cell 7; have m8 := HMB.out.cell 8; have m9 := HMB.out.cell 9; have m10 := HMB.out.cell 10; have m11 := HMB.out.cell 11; have m12 := HMB.out.cell 12; simp at m0 m1 m2 m3 m4 m5 m6 m7 m8 m9 m10 m11 m12
  go_enter Tryd.func43, Tryd.ntmps43
  go_upto_region 4 with (first | (go_at_call 36; refine (HRR.out _).mono ?_; rintro e v0 ⟨rfl, ho⟩; replace HMB := hide (HMB.out.only ho (by simp)); replace HO := hide (HO.out.trans ho); clear ho m0 m1 m2 m3 m4 m5 m6 m7 m8 m9 m10 m11 m12; have m0 := HMB.out.cell 0; have m1 := HMB.out.cell 1; have m2 := HMB.out.cell 2; have m3 := HMB.out.cell 3; have m4 := HMB.out.cell 4; have m5 := HMB.out.cell 5; have m6 := HMB.out.cell 6; have m7 := HMB.out.cell 7; have m8 := HMB.out.cell 8; have m9 := HMB.out.cell 9; have m10 := HMB.out.cell 10; have m11 := HMB.out.cell 11; have m12 := HMB.out.cell 12; simp at m0 m1 m2 m3 m4 m5 m6 m7 m8 m9 m10 m11 m12) | (go_at_call 42; refine (HTR.out _).mono ?_; rintro e v1 ⟨g, rfl, hg, hb, ho⟩; have HRD := hide (show Rd v1 [] (.slice (some ⟨g, 0, none⟩) 5 5) (strs [x4, x5, x6, x11, x12]) from blk_strs hb [] (by simp) (by unfold maxLen; show 5 ≤ _; omega)); replace HMB := hide (HMB.out.only ho (by simp)); replace HO := hide (HO.out.trans ho); clear hg hb ho m0))
  refine wp_region_held_drew (S := fun W => Only [] v1 W) (by kernel_rfl) (by exact (Only.refl [] v1).drew) (fun hHeld => ?_)
  refine wpAnyH_take (i := 0) (v := ?_) rfl (by kernel_rfl) (by kernel_rfl) (by kernel_rfl) (fun _ _ _ h => h) (Or.inl ⟨by rfl, ?_⟩) (by assumption) ?_
  rotate_left
  · (intro w hSw; (try dsimp only at hSw); go_simp; try with_reducible rfl)
  try simp only [List.getElem_toArray, List.getElem_cons_succ, List.getElem_cons_zero, Act.put, List.setIfInBounds_toArray, List.set_cons_zero, List.set_cons_succ]
  refine wpAnyH_take (i := 1) (v := ?_) rfl (by kernel_rfl) (by kernel_rfl) (by kernel_rfl) (fun _ _ _ h => h) (Or.inl ⟨by rfl, ?_⟩) (by assumption) ?_
  rotate_left
  · (intro w hSw; (try dsimp only at hSw); have HMw := HMB.out.only hSw (by simp); have m0 := (hide HMw).out.cell 0; simp at m0; go_simp; try with_reducible rfl)
  try simp only [List.getElem_toArray, List.getElem_cons_succ, List.getElem_cons_zero, Act.put, List.setIfInBounds_toArray, List.set_cons_zero, List.set_cons_succ]
  refine wpAnyH_take (i := 2) (v := ?_) rfl (by kernel_rfl) (by kernel_rfl) (by kernel_rfl) (fun _ _ _ h => h) (Or.inl ⟨by rfl, ?_⟩) (by assumption) ?_
  rotate_left
  · (intro w hSw; (try dsimp only at hSw); go_simp; try with_reducible rfl)
  try simp only [List.getElem_toArray, List.getElem_cons_succ, List.getElem_cons_zero, Act.put, List.setIfInBounds_toArray, List.set_cons_zero, List.set_cons_succ]
  refine wpAnyH_take (i := 4) (v := ?_) rfl (by kernel_rfl) (by kernel_rfl) (by kernel_rfl) (fun _ _ _ h => h) (Or.inl ⟨by rfl, ?_⟩) (by assumption) ?_
  rotate_left
  · (intro w hSw; (try dsimp only at hSw); go_simp; try with_reducible rfl)
  try simp only [List.getElem_toArray, List.getElem_cons_succ, List.getElem_cons_zero, Act.put, List.setIfInBounds_toArray, List.set_cons_zero, List.set_cons_succ]
  refine wpAnyH_take (i := 5) (v := ?_) rfl (by kernel_rfl) (by kernel_rfl) (by kernel_rfl) (fun _ _ _ h => h) (Or.inl ⟨by rfl, ?_⟩) (by assumption) ?_
  rotate_left
  · (intro w hSw; (try dsimp only at hSw); have HMw := HMB.out.only hSw (by simp); have m1 := (hide HMw).out.cell 1; simp at m1; go_simp; try with_reducible rfl)
  try simp only [List.getElem_toArray, List.getElem_cons_succ, List.getElem_cons_zero, Act.put, List.setIfInBounds_toArray, List.set_cons_zero, List.set_cons_succ]
  refine wpAnyH_take (i := 6) (v := ?_) rfl (by kernel_rfl) (by kernel_rfl) (by kernel_rfl) (fun _ _ _ h => h) (Or.inl ⟨by rfl, ?_⟩) (by assumption) ?_
  rotate_left
  · (intro w hSw; (try dsimp only at hSw); go_simp; try with_reducible rfl)
  try simp only [List.getElem_toArray, List.getElem_cons_succ, List.getElem_cons_zero, Act.put, List.setIfInBounds_toArray, List.set_cons_zero, List.set_cons_succ]
  refine wpAnyH_take (i := 8) (v := ?_) rfl (by kernel_rfl) (by kernel_rfl) (by kernel_rfl) (fun _ _ _ h => h) (Or.inl ⟨by rfl, ?_⟩) (by assumption) ?_
  rotate_left
  · (intro w hSw; (try dsimp only at hSw); go_simp; try with_reducible rfl)
  try simp only [List.getElem_toArray, List.getElem_cons_succ, List.getElem_cons_zero, Act.put, List.setIfInBounds_toArray, List.set_cons_zero, List.set_cons_succ]
  refine wpAnyH_take (i := 9) (v := ?_) rfl (by kernel_rfl) (by kernel_rfl) (by kernel_rfl) (fun _ _ _ h => h) (Or.inl ⟨by rfl, ?_⟩) (by assumption) ?_
  rotate_left
  · (intro w hSw; (try dsimp only at hSw); have HMw := HMB.out.only hSw (by simp); have m2 := (hide HMw).out.cell 2; simp at m2; go_simp; try with_reducible rfl)
  try simp only [List.getElem_toArray, List.getElem_cons_succ, List.getElem_cons_zero, Act.put, List.setIfInBounds_toArray, List.set_cons_zero, List.set_cons_succ]
  refine wpAnyH_take (i := 10) (v := ?_) rfl (by kernel_rfl) (by kernel_rfl) (by kernel_rfl) (fun _ _ _ h => h) (Or.inl ⟨by rfl, ?_⟩) (by assumption) ?_
  rotate_left
  · (intro w hSw; (try dsimp only at hSw); go_simp; try with_reducible rfl)
  try simp only [List.getElem_toArray, List.getElem_cons_succ, List.getElem_cons_zero, Act.put, List.setIfInBounds_toArray, List.set_cons_zero, List.set_cons_succ]
  refine wpAnyH_ready (rs := [3]) (by kernel_rfl) (by simp) ?_
  refine AllReadyH.cons rfl (fun K hK => ?_) AllReadyH.nil
  go_simp
  (go_at_call 69; refine (NumberR_any _ 1 (by omega)).mono ?_; rintro e wz ⟨rfl, ho⟩)
  refine hK.out _ _ (by exact hHeld.trans ho) (fun hHeld => ?_)
  clear hK K ho
  try simp only [List.getElem_toArray, List.getElem_cons_succ, List.getElem_cons_zero, Act.put, List.setIfInBounds_toArray, List.set_cons_zero, List.set_cons_succ]
  refine wpAnyH_ready (rs := [7]) (by kernel_rfl) (by simp) ?_
  refine AllReadyH.cons rfl (fun K hK => ?_) AllReadyH.nil
  go_simp
  (go_at_call 69; refine (NumberR_any _ s (by omega)).mono ?_; rintro e wz ⟨rfl, ho⟩)
  refine hK.out _ _ (by exact hHeld.trans ho) (fun hHeld => ?_)
  clear hK K ho
  try simp only [List.getElem_toArray, List.getElem_cons_succ, List.getElem_cons_zero, Act.put, List.setIfInBounds_toArray, List.set_cons_zero, List.set_cons_succ]
  refine wpAnyH_ready (rs := [11]) (by kernel_rfl) (by simp) ?_
  refine AllReadyH.cons rfl (fun K hK => ?_) AllReadyH.nil
  go_simp
  (go_at_call 69; refine (NumberR_any _ r (by omega)).mono ?_; rintro e wz ⟨rfl, ho⟩)
  refine hK.out _ _ (by exact hHeld.trans ho) (fun hHeld => ?_)
  clear hK K ho
  try simp only [List.getElem_toArray, List.getElem_cons_succ, List.getElem_cons_zero, Act.put, List.setIfInBounds_toArray, List.set_cons_zero, List.set_cons_succ]
  refine wpAnyH_ready (rs := [12]) (by kernel_rfl) (by simp) ?_
  refine AllReadyH.cons rfl (fun K hK => ?_) AllReadyH.nil
  go_simp
  have HZ0 := hide hHeld.size
  refine hK.out _ _ (by exact hHeld.alloc _) (fun hHeld => ?_)
  clear hK K
  try simp only [List.getElem_toArray, List.getElem_cons_succ, List.getElem_cons_zero, Act.put, List.setIfInBounds_toArray, List.set_cons_zero, List.set_cons_succ]
  refine wpAnyH_take (i := 13) (v := ?_) rfl (by kernel_rfl) (by kernel_rfl) (by kernel_rfl) (fun _ _ _ h => h) (Or.inl ⟨by rfl, ?_⟩) (by assumption) ?_
  rotate_left
  · (intro w hSw; (try dsimp only at hSw); go_simp; try with_reducible rfl)
  try simp only [List.getElem_toArray, List.getElem_cons_succ, List.getElem_cons_zero, Act.put, List.setIfInBounds_toArray, List.set_cons_zero, List.set_cons_succ]
  refine wpAnyH_done (by kernel_rfl) ?_ _
  have hz1 := make_size' 3 1 [] [] (by omega)
  have hz2 := make_size' 3 s [] [] (by omega)
  have hz3 := make_size' 3 r [] [] (by omega)
  have HOW := hide (show (wz.alloc (.cells #[.string (numT 1), .string (numT s), .string (numT r)] 9)).ownsRow wz.heap.size 9 1 (.slice (some ⟨wz.heap.size, 0, none⟩) 3 3) 3 (strs [numT 1, numT s, numT r]) from World.ownsRow_lit wz #[.string (numT 1), .string (numT s), .string (numT r)] 3 (Nat.le_refl _) (by unfold maxLen; omega) rfl)
  have HHD := hide hHeld
  have HRT := hide (show Rd (wz.alloc (.cells #[.string (numT 1), .string (numT s), .string (numT r)] 9)) [] (.slice (some ⟨g, 0, none⟩) 3 5) (strs [x4, x5, x6]) from (HRD.out.only hHeld (by simp)).take 3 (by omega))
  have HSZ := hide (show wz.heap.size ≤ (wz.alloc (.cells #[.string (numT 1), .string (numT s), .string (numT r)] 9)).heap.size by simp)
  have HBZ := hide (show v1.heap.size ≤ wz.heap.size from HZ0.out)
  generalize (wz.alloc (.cells #[.string (numT 1), .string (numT s), .string (numT r)] 9)) = wp at *
  have HPS := hide (show ∀ p ∈ [numT 1, numT s, numT r] ++ [x4, x5, x6], p.size ≤ maxLen by intro p hp; simp at hp; rcases hp with rfl | rfl | rfl | rfl | rfl | rfl; all_goals assumption)
  go_wp2_with (first | (at_builtin; refine wpList_append_any _ rfl (.tmp 28) (.tmp 33) 31 rfl wz.heap.size 9 is (.string ByteArray.empty) 1 16 Tryd.underlying31 his hs0 hs1 hs2 rfl (by decide) _ 3 _ rfl HOW.out wp.heap.size (some ⟨g, 0, none⟩) 3 5 (strs [x4, x5, x6]) rfl HRT.out.reads (by intro u hu; obtain ⟨x, _, rfl⟩ := List.mem_map.1 hu; rfl) (by unfold maxLen; omega) (by omega) HSZ.out ?_; intro vv w3 hown1 hg1 _; have HOW3 := hide (show w3.ownsRow wz.heap.size 9 1 vv 6 (strs ([numT 1, numT s, numT r] ++ [x4, x5, x6])) from hown1); have HO3 := hide (show Only [] v1 w3 from HHD.out.grown hg1 (fun jj hjj => .inr (by have := own_block_ge HOW.out hjj; have := HBZ.out; omega))); clear hown1 hg1; obtain ⟨Av, cv, rfl, _, _⟩ := own_form HOW3.out) | (go_at_call 77; refine (ListR_any _ _ ([numT 1, numT s, numT r] ++ [x4, x5, x6]) (by simp) HPS.out (Rd.of_own (N := []) HOW3.out (by simp)).1).mono ?_; rintro e wm ⟨rfl, ho⟩; have HOF := hide ((HO.out.trans HO3.out).trans ho); clear ho))
  go_ret
  exact makepost HV.out HOF.out
end
end Go.Proofs.YtfmfnfmhknlpbaaDoor

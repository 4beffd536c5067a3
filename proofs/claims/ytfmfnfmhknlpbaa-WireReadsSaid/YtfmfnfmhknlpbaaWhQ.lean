/-
  The reference's value and With, by walking. No condition but the lengths.
-/
import Derived.Test.YtfmfnfmhknlpbaaWfQ
import Derived.StillTailTactics
namespace Go.Proofs.Ytfmfnfmhknlpbaa
open Go.RowKit Go.Deep

theorem lowV_drop (q : List UInt8) (j : Nat) (hj : j < q.length) : lowV (q.drop j) = (q.getD j 0).toNat + 256 * lowV (q.drop (j + 1)) := by
  rw [List.drop_eq_getElem_cons hj, lowV]
  simp [List.getElem?_eq_getElem hj]
set_option maxRecDepth 100000 in
theorem low_step (u b n : Nat) (hu : u < 256 ^ n) (hn : n ≤ 7) (hb : b < 256) : IntKind.u64.wrap (IntKind.u64.wrap (256 * (u : Int)) + (b : Int)) = ((b + 256 * u : Nat) : Int) := by
  have h7 : 256 ^ n ≤ 256 ^ 7 := Nat.pow_le_pow_right (by decide) hn
  have e7 : 256 ^ 7 = 72057594037927936 := by decide
  rw [e7] at h7
  have hlt : u < 72057594037927936 := by omega
  clear hu h7 e7
  have w1 : IntKind.u64.wrap (256 * (u : Int)) = 256 * u := by rw [IntKind.wrap_u64]; omega
  rw [w1, IntKind.wrap_u64]
  omega

set_option maxRecDepth 100000 in
set_option maxHeartbeats 3200000 in
theorem value_w (w : World) (N : List Nat) (v : Value) (q : List UInt8) (hq : q.length ≤ 8) (h : Rd w N v (ints .u8 (byts q))) :
    Calls Try.prog 30 #[v] w fun e w' => e = .returned (.int .u64 (lowV q : Nat)) ∧ w = w' := by
  obtain ⟨A, cap, rfl, hc1, hc2⟩ := h.formb
  obtain ⟨n, hn⟩ : ∃ n, n = q.length := ⟨_, rfl⟩
  have HN := hide hn
  have HR := hide h
  have HQ := hide hq
  rw [← hn] at HR hc1 ⊢
  have hn8 : n ≤ 8 := by omega
  unfold maxLen at hc2
  clear h hq hn
  go_enter Try.func30, Try.ntmps30
  go_wp2_with fail
  go_loopw [4, 3] (fun i u wr => ∃ j : Nat, j ≤ n ∧ i = .int .i64 ((j : Int) - 1) ∧ u = .int .u64 (lowV (q.drop j) : Nat) ∧ Hid (wr = w)) (fun i _ _ => (intOf i + 1).toNat)
  case atStart => exact ⟨n, Nat.le_refl _, rfl, by rw [List.drop_of_length_le (by have := HN.out; omega)]; rfl, hide rfl⟩
  case round =>
    obtain ⟨j, hj, rfl, rfl, HW⟩ := hrel
    obtain rfl := HW.out
    cases j with
    | zero =>
      have h0 : ¬ (0 : Int) ≤ ((0 : Nat) : Int) - 1 := by omega
      rw [List.drop_zero]
      go_wp2_with fail
      go_ret
      exact ⟨rfl, rfl⟩
    | succ j =>
      have e1 : ((j + 1 : Nat) : Int) - 1 = (j : Int) := by omega
      rw [e1]
      have hjq : j < q.length := by have := HN.out; omega
      have hjn : (j : Int) < n := by omega
      have hjp : (0 : Int) ≤ j := by omega
      obtain ⟨g2, o2, hA, _, hg, hcell⟩ := HR.out.at_.2.2.2 j (.int .u8 (q.getD j 0).toNat) (ints_get (byts_get (by simp [List.getElem?_eq_getElem hjq])))
      cases hA
      have HS := hide (lowV_drop q j hjq)
      have HLT := hide (lowV_lt (q.drop (j + 1)))
      have HLL := hide (show (q.drop (j + 1)).length ≤ 7 by rw [List.length_drop]; have := HQ.out; omega)
      have HBB := hide (q.getD j 0).toNat_lt
      have hwb : IntKind.u64.wrap ((q.getD j 0).toNat : Int) = ((q.getD j 0).toNat : Int) := by have := HBB.out; rw [IntKind.wrap_u64]; omega
      generalize (q.getD j 0).toNat = b at *
      generalize lowV (q.drop (j + 1)) = u at *
      clear hjq
      go_wp2_with fail
      refine ⟨⟨j, by omega, rfl, ?_, (by first | exact hide trivial | exact hide rfl)⟩, (by simp [intOf]; try omega)⟩
      rw [low_step u b _ HLT.out HLL.out HBB.out, HS.out]

set_option maxRecDepth 100000 in
set_option maxHeartbeats 6400000 in
theorem With_1 (w : World) (s r c : Nat) (g o cap : Nat) (x0 x1 x2 x3 x4 : ByteArray) (hc : 5 ≤ cap) (h0 : w.cell? ⟨g, o, none⟩ = some (.string x0)) (h1 : w.cell? ⟨g, o + 1, none⟩ = some (.string x1)) (h2 : w.cell? ⟨g, o + 2, none⟩ = some (.string x2)) (h3 : w.cell? ⟨g, o + 3, none⟩ = some (.string x3)) (h4 : w.cell? ⟨g, o + 4, none⟩ = some (.string x4)) :
    Calls Try.prog 32 #[.int .i64 1, .int .u32 (s : Nat), .int .u32 (r : Nat), .int .u64 (c : Nat), .slice (some ⟨g, o, none⟩) 5 cap] w fun e w' =>
      e = .returned (.agg #[.int .i64 1, .int .u32 (s : Nat), .int .u32 0, .int .u64 0, .string x0, .string x1, .string x2, .string ⟨#[]⟩, .string ⟨#[]⟩, .string ⟨#[]⟩, .string ⟨#[]⟩, .string x3, .string x4]) ∧ Only [] w w' := by
  have hg : g < w.heap.size := by have := World.block_lt_of_cell? w _ h0; simpa using this
  have HRB := hide (Blk.new w 27 #[.int .i64 0, .int .u32 0, .int .u32 0, .int .u64 0, .string ⟨#[]⟩, .string ⟨#[]⟩, .string ⟨#[]⟩, .string ⟨#[]⟩, .string ⟨#[]⟩, .string ⟨#[]⟩, .string ⟨#[]⟩, .string ⟨#[]⟩, .string ⟨#[]⟩])
  have HO := hide ((Only.refl [] w).alloc (.cells #[.int .i64 0, .int .u32 0, .int .u32 0, .int .u64 0, .string ⟨#[]⟩, .string ⟨#[]⟩, .string ⟨#[]⟩, .string ⟨#[]⟩, .string ⟨#[]⟩, .string ⟨#[]⟩, .string ⟨#[]⟩, .string ⟨#[]⟩, .string ⟨#[]⟩] 27))
  have d0 := (cell_only HO.out hg (by simp)).trans h0
  have d1 := (cell_only HO.out hg (by simp)).trans h1
  have d2 := (cell_only HO.out hg (by simp)).trans h2
  have d3 := (cell_only HO.out hg (by simp)).trans h3
  have d4 := (cell_only HO.out hg (by simp)).trans h4
  go_enter Try.func32, Try.ntmps32
  go_wp2_with fail
  generalize (w.alloc (.cells #[.int .i64 0, .int .u32 0, .int .u32 0, .int .u64 0, .string ⟨#[]⟩, .string ⟨#[]⟩, .string ⟨#[]⟩, .string ⟨#[]⟩, .string ⟨#[]⟩, .string ⟨#[]⟩, .string ⟨#[]⟩, .string ⟨#[]⟩, .string ⟨#[]⟩] 27)) = W at *
  have r0 := HRB.out.cell 0
  have r1 := HRB.out.cell 1
  have r2 := HRB.out.cell 2
  have r3 := HRB.out.cell 3
  have r4 := HRB.out.cell 4
  have r5 := HRB.out.cell 5
  have r6 := HRB.out.cell 6
  have r7 := HRB.out.cell 7
  have r8 := HRB.out.cell 8
  have r9 := HRB.out.cell 9
  have r10 := HRB.out.cell 10
  have r11 := HRB.out.cell 11
  have r12 := HRB.out.cell 12
  simp at r0 r1 r2 r3 r4 r5 r6 r7 r8 r9 r10 r11 r12
  have rf := HRB.out.frozen
  go_still_tail 17, (by kernel_rfl)
  change wpList _ _ _ _ _ W.drew
  go_wp2_with fail
  refine bodyPost_ret (results_cell_row rfl _ _ w.heap.size 27 _ (0, 0) _ rfl ((set13 HRB.out (.int .i64 1) (.int .u32 (s : Nat)) (.int .u32 0) (.int .u64 0) (.string x0) (.string x1) (.string x2) (.string ⟨#[]⟩) (.string ⟨#[]⟩) (.string ⟨#[]⟩) (.string ⟨#[]⟩) (.string x3) (.string x4)).drew) Try.underlying27 rfl (by kernel_rfl)) rfl ?_
  exact ⟨rfl, (only13 HO.out (.inr (Nat.le_refl _)) (.int .i64 1) (.int .u32 (s : Nat)) (.int .u32 0) (.int .u64 0) (.string x0) (.string x1) (.string x2) (.string ⟨#[]⟩) (.string ⟨#[]⟩) (.string ⟨#[]⟩) (.string ⟨#[]⟩) (.string x3) (.string x4)).drew⟩

set_option maxRecDepth 100000 in
set_option maxHeartbeats 6400000 in
theorem With_2 (w : World) (s r c : Nat) (g o cap : Nat) (x0 x1 x2 x3 : ByteArray) (hc : 4 ≤ cap) (h0 : w.cell? ⟨g, o, none⟩ = some (.string x0)) (h1 : w.cell? ⟨g, o + 1, none⟩ = some (.string x1)) (h2 : w.cell? ⟨g, o + 2, none⟩ = some (.string x2)) (h3 : w.cell? ⟨g, o + 3, none⟩ = some (.string x3)) :
    Calls Try.prog 32 #[.int .i64 2, .int .u32 (s : Nat), .int .u32 (r : Nat), .int .u64 (c : Nat), .slice (some ⟨g, o, none⟩) 4 cap] w fun e w' =>
      e = .returned (.agg #[.int .i64 2, .int .u32 (s : Nat), .int .u32 (r : Nat), .int .u64 0, .string x0, .string ⟨#[]⟩, .string ⟨#[]⟩, .string x1, .string ⟨#[]⟩, .string ⟨#[]⟩, .string ⟨#[]⟩, .string x2, .string x3]) ∧ Only [] w w' := by
  have hg : g < w.heap.size := by have := World.block_lt_of_cell? w _ h0; simpa using this
  have HRB := hide (Blk.new w 27 #[.int .i64 0, .int .u32 0, .int .u32 0, .int .u64 0, .string ⟨#[]⟩, .string ⟨#[]⟩, .string ⟨#[]⟩, .string ⟨#[]⟩, .string ⟨#[]⟩, .string ⟨#[]⟩, .string ⟨#[]⟩, .string ⟨#[]⟩, .string ⟨#[]⟩])
  have HO := hide ((Only.refl [] w).alloc (.cells #[.int .i64 0, .int .u32 0, .int .u32 0, .int .u64 0, .string ⟨#[]⟩, .string ⟨#[]⟩, .string ⟨#[]⟩, .string ⟨#[]⟩, .string ⟨#[]⟩, .string ⟨#[]⟩, .string ⟨#[]⟩, .string ⟨#[]⟩, .string ⟨#[]⟩] 27))
  have d0 := (cell_only HO.out hg (by simp)).trans h0
  have d1 := (cell_only HO.out hg (by simp)).trans h1
  have d2 := (cell_only HO.out hg (by simp)).trans h2
  have d3 := (cell_only HO.out hg (by simp)).trans h3
  go_enter Try.func32, Try.ntmps32
  go_wp2_with fail
  generalize (w.alloc (.cells #[.int .i64 0, .int .u32 0, .int .u32 0, .int .u64 0, .string ⟨#[]⟩, .string ⟨#[]⟩, .string ⟨#[]⟩, .string ⟨#[]⟩, .string ⟨#[]⟩, .string ⟨#[]⟩, .string ⟨#[]⟩, .string ⟨#[]⟩, .string ⟨#[]⟩] 27)) = W at *
  have r0 := HRB.out.cell 0
  have r1 := HRB.out.cell 1
  have r2 := HRB.out.cell 2
  have r3 := HRB.out.cell 3
  have r4 := HRB.out.cell 4
  have r5 := HRB.out.cell 5
  have r6 := HRB.out.cell 6
  have r7 := HRB.out.cell 7
  have r8 := HRB.out.cell 8
  have r9 := HRB.out.cell 9
  have r10 := HRB.out.cell 10
  have r11 := HRB.out.cell 11
  have r12 := HRB.out.cell 12
  simp at r0 r1 r2 r3 r4 r5 r6 r7 r8 r9 r10 r11 r12
  have rf := HRB.out.frozen
  go_still_tail 15, (by kernel_rfl)
  change wpList _ _ _ _ _ W.drew
  go_wp2_with fail
  refine bodyPost_ret (results_cell_row rfl _ _ w.heap.size 27 _ (0, 0) _ rfl ((set13 HRB.out (.int .i64 2) (.int .u32 (s : Nat)) (.int .u32 (r : Nat)) (.int .u64 0) (.string x0) (.string ⟨#[]⟩) (.string ⟨#[]⟩) (.string x1) (.string ⟨#[]⟩) (.string ⟨#[]⟩) (.string ⟨#[]⟩) (.string x2) (.string x3)).drew) Try.underlying27 rfl (by kernel_rfl)) rfl ?_
  exact ⟨rfl, (only13 HO.out (.inr (Nat.le_refl _)) (.int .i64 2) (.int .u32 (s : Nat)) (.int .u32 (r : Nat)) (.int .u64 0) (.string x0) (.string ⟨#[]⟩) (.string ⟨#[]⟩) (.string x1) (.string ⟨#[]⟩) (.string ⟨#[]⟩) (.string ⟨#[]⟩) (.string x2) (.string x3)).drew⟩

set_option maxRecDepth 100000 in
set_option maxHeartbeats 6400000 in
theorem With_3 (w : World) (s r c : Nat) (g o cap : Nat) (x0 x1 : ByteArray) (hc : 2 ≤ cap) (h0 : w.cell? ⟨g, o, none⟩ = some (.string x0)) (h1 : w.cell? ⟨g, o + 1, none⟩ = some (.string x1)) :
    Calls Try.prog 32 #[.int .i64 3, .int .u32 (s : Nat), .int .u32 (r : Nat), .int .u64 (c : Nat), .slice (some ⟨g, o, none⟩) 2 cap] w fun e w' =>
      e = .returned (.agg #[.int .i64 3, .int .u32 0, .int .u32 (r : Nat), .int .u64 0, .string ⟨#[]⟩, .string ⟨#[]⟩, .string ⟨#[]⟩, .string ⟨#[]⟩, .string x0, .string x1, .string ⟨#[]⟩, .string ⟨#[]⟩, .string ⟨#[]⟩]) ∧ Only [] w w' := by
  have hg : g < w.heap.size := by have := World.block_lt_of_cell? w _ h0; simpa using this
  have HRB := hide (Blk.new w 27 #[.int .i64 0, .int .u32 0, .int .u32 0, .int .u64 0, .string ⟨#[]⟩, .string ⟨#[]⟩, .string ⟨#[]⟩, .string ⟨#[]⟩, .string ⟨#[]⟩, .string ⟨#[]⟩, .string ⟨#[]⟩, .string ⟨#[]⟩, .string ⟨#[]⟩])
  have HO := hide ((Only.refl [] w).alloc (.cells #[.int .i64 0, .int .u32 0, .int .u32 0, .int .u64 0, .string ⟨#[]⟩, .string ⟨#[]⟩, .string ⟨#[]⟩, .string ⟨#[]⟩, .string ⟨#[]⟩, .string ⟨#[]⟩, .string ⟨#[]⟩, .string ⟨#[]⟩, .string ⟨#[]⟩] 27))
  have d0 := (cell_only HO.out hg (by simp)).trans h0
  have d1 := (cell_only HO.out hg (by simp)).trans h1
  go_enter Try.func32, Try.ntmps32
  go_wp2_with fail
  generalize (w.alloc (.cells #[.int .i64 0, .int .u32 0, .int .u32 0, .int .u64 0, .string ⟨#[]⟩, .string ⟨#[]⟩, .string ⟨#[]⟩, .string ⟨#[]⟩, .string ⟨#[]⟩, .string ⟨#[]⟩, .string ⟨#[]⟩, .string ⟨#[]⟩, .string ⟨#[]⟩] 27)) = W at *
  have r0 := HRB.out.cell 0
  have r1 := HRB.out.cell 1
  have r2 := HRB.out.cell 2
  have r3 := HRB.out.cell 3
  have r4 := HRB.out.cell 4
  have r5 := HRB.out.cell 5
  have r6 := HRB.out.cell 6
  have r7 := HRB.out.cell 7
  have r8 := HRB.out.cell 8
  have r9 := HRB.out.cell 9
  have r10 := HRB.out.cell 10
  have r11 := HRB.out.cell 11
  have r12 := HRB.out.cell 12
  simp at r0 r1 r2 r3 r4 r5 r6 r7 r8 r9 r10 r11 r12
  have rf := HRB.out.frozen
  go_still_tail 8, (by kernel_rfl)
  change wpList _ _ _ _ _ W.drew
  go_wp2_with fail
  refine bodyPost_ret (results_cell_row rfl _ _ w.heap.size 27 _ (0, 0) _ rfl ((set13 HRB.out (.int .i64 3) (.int .u32 0) (.int .u32 (r : Nat)) (.int .u64 0) (.string ⟨#[]⟩) (.string ⟨#[]⟩) (.string ⟨#[]⟩) (.string ⟨#[]⟩) (.string x0) (.string x1) (.string ⟨#[]⟩) (.string ⟨#[]⟩) (.string ⟨#[]⟩)).drew) Try.underlying27 rfl (by kernel_rfl)) rfl ?_
  exact ⟨rfl, (only13 HO.out (.inr (Nat.le_refl _)) (.int .i64 3) (.int .u32 0) (.int .u32 (r : Nat)) (.int .u64 0) (.string ⟨#[]⟩) (.string ⟨#[]⟩) (.string ⟨#[]⟩) (.string ⟨#[]⟩) (.string x0) (.string x1) (.string ⟨#[]⟩) (.string ⟨#[]⟩) (.string ⟨#[]⟩)).drew⟩

set_option maxRecDepth 100000 in
set_option maxHeartbeats 6400000 in
theorem With_4 (w : World) (s r c : Nat) (g o cap : Nat) (x0 : ByteArray) (hc : 1 ≤ cap) (h0 : w.cell? ⟨g, o, none⟩ = some (.string x0)) :
    Calls Try.prog 32 #[.int .i64 4, .int .u32 (s : Nat), .int .u32 (r : Nat), .int .u64 (c : Nat), .slice (some ⟨g, o, none⟩) 1 cap] w fun e w' =>
      e = .returned (.agg #[.int .i64 4, .int .u32 0, .int .u32 (r : Nat), .int .u64 (c : Nat), .string ⟨#[]⟩, .string ⟨#[]⟩, .string ⟨#[]⟩, .string ⟨#[]⟩, .string ⟨#[]⟩, .string ⟨#[]⟩, .string x0, .string ⟨#[]⟩, .string ⟨#[]⟩]) ∧ Only [] w w' := by
  have hg : g < w.heap.size := by have := World.block_lt_of_cell? w _ h0; simpa using this
  have HRB := hide (Blk.new w 27 #[.int .i64 0, .int .u32 0, .int .u32 0, .int .u64 0, .string ⟨#[]⟩, .string ⟨#[]⟩, .string ⟨#[]⟩, .string ⟨#[]⟩, .string ⟨#[]⟩, .string ⟨#[]⟩, .string ⟨#[]⟩, .string ⟨#[]⟩, .string ⟨#[]⟩])
  have HO := hide ((Only.refl [] w).alloc (.cells #[.int .i64 0, .int .u32 0, .int .u32 0, .int .u64 0, .string ⟨#[]⟩, .string ⟨#[]⟩, .string ⟨#[]⟩, .string ⟨#[]⟩, .string ⟨#[]⟩, .string ⟨#[]⟩, .string ⟨#[]⟩, .string ⟨#[]⟩, .string ⟨#[]⟩] 27))
  have d0 := (cell_only HO.out hg (by simp)).trans h0
  go_enter Try.func32, Try.ntmps32
  go_upto_region 8 with fail
  generalize (w.alloc (.cells #[.int .i64 0, .int .u32 0, .int .u32 0, .int .u64 0, .string ⟨#[]⟩, .string ⟨#[]⟩, .string ⟨#[]⟩, .string ⟨#[]⟩, .string ⟨#[]⟩, .string ⟨#[]⟩, .string ⟨#[]⟩, .string ⟨#[]⟩, .string ⟨#[]⟩] 27)) = W at *
  have r0 := HRB.out.cell 0
  have r1 := HRB.out.cell 1
  have r2 := HRB.out.cell 2
  have r3 := HRB.out.cell 3
  have r4 := HRB.out.cell 4
  have r5 := HRB.out.cell 5
  have r6 := HRB.out.cell 6
  have r7 := HRB.out.cell 7
  have r8 := HRB.out.cell 8
  have r9 := HRB.out.cell 9
  have r10 := HRB.out.cell 10
  have r11 := HRB.out.cell 11
  have r12 := HRB.out.cell 12
  simp at r0 r1 r2 r3 r4 r5 r6 r7 r8 r9 r10 r11 r12
  have rf := HRB.out.frozen
  go_wp2_with fail
  refine bodyPost_ret (results_cell_row rfl _ _ w.heap.size 27 _ (0, 0) _ rfl ((set13 HRB.out (.int .i64 4) (.int .u32 0) (.int .u32 (r : Nat)) (.int .u64 (c : Nat)) (.string ⟨#[]⟩) (.string ⟨#[]⟩) (.string ⟨#[]⟩) (.string ⟨#[]⟩) (.string ⟨#[]⟩) (.string ⟨#[]⟩) (.string x0) (.string ⟨#[]⟩) (.string ⟨#[]⟩))) Try.underlying27 rfl (by kernel_rfl)) rfl ?_
  exact ⟨rfl, (only13 HO.out (.inr (Nat.le_refl _)) (.int .i64 4) (.int .u32 0) (.int .u32 (r : Nat)) (.int .u64 (c : Nat)) (.string ⟨#[]⟩) (.string ⟨#[]⟩) (.string ⟨#[]⟩) (.string ⟨#[]⟩) (.string ⟨#[]⟩) (.string ⟨#[]⟩) (.string x0) (.string ⟨#[]⟩) (.string ⟨#[]⟩))⟩
end Go.Proofs.Ytfmfnfmhknlpbaa

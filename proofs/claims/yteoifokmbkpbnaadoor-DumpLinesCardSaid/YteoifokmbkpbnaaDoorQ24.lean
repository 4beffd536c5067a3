/-
  Walks and plain words (texts Dlm, Wh). No condition beyond those that each theorem states.
-/
import Derived.StillTailTactics
import Derived.Test.YteoifokmbkpbnaaDoorQ22
namespace Go.Proofs.YteoifokmbkpbnaaDoor
section
open Go.RowKit Go.Deep

def catW : ByteArray → List ByteArray → ByteArray
  | s, [] => s
  | s, w :: l => catW (s ++ (⟨#[32]⟩ ++ w)) l
theorem cat_join : ∀ (l : List ByteArray) (s : ByteArray), (catW s l).data.toList = s.data.toList ++ Lib.joinTail [32] (l.map (·.data.toList))
  | [], s => by simp [catW, Lib.joinTail]
  | w :: l, s => by
    rw [catW, cat_join l]
    simp [Lib.joinTail, ByteArray.data_append]
theorem join_cat (s : ByteArray) (l : List ByteArray) : joinW (s :: l) = catW s l := by
  unfold joinW
  rw [List.map_cons, Lib.join_cons, ← cat_join]
theorem words_cat (i f t d : Nat) (cd : Int) (m : Mg) (n : Nat) : joinW (wordsW i f t d cd m n) = catW (decS i ++ wordS f ++ wordS t ++ wordS d) (tailW cd m n) := by
  unfold wordsW
  rw [List.cons_append, join_cat]
  rfl
theorem sp_raw : (⟨#[32]⟩ : ByteArray) ++ ⟨#[114, 97, 119]⟩ = ⟨#[32, 114, 97, 119]⟩ := by decide +kernel
theorem sp_init : (⟨#[32]⟩ : ByteArray) ++ ⟨#[105, 110, 105, 116]⟩ = ⟨#[32, 105, 110, 105, 116]⟩ := by decide +kernel
theorem sp_response : (⟨#[32]⟩ : ByteArray) ++ ⟨#[114, 101, 115, 112, 111, 110, 115, 101]⟩ = ⟨#[32, 114, 101, 115, 112, 111, 110, 115, 101]⟩ := by decide +kernel
theorem sp_cookie : (⟨#[32]⟩ : ByteArray) ++ ⟨#[99, 111, 111, 107, 105, 101]⟩ = ⟨#[32, 99, 111, 111, 107, 105, 101]⟩ := by decide +kernel
theorem sp_data : (⟨#[32]⟩ : ByteArray) ++ ⟨#[100, 97, 116, 97]⟩ = ⟨#[32, 100, 97, 116, 97]⟩ := by decide +kernel
theorem sp_dash : (⟨#[32]⟩ : ByteArray) ++ dashB = ⟨#[32, 45]⟩ := by decide +kernel
theorem cat_raw (X a : ByteArray) : catW X [⟨#[114, 97, 119]⟩, a] = X ++ ⟨#[32, 114, 97, 119]⟩ ++ (⟨#[32]⟩ ++ a) := by rw [catW, catW, catW, sp_raw]
theorem cat_init (X a : ByteArray) : catW X [⟨#[105, 110, 105, 116]⟩, a] = X ++ ⟨#[32, 105, 110, 105, 116]⟩ ++ (⟨#[32]⟩ ++ a) := by rw [catW, catW, catW, sp_init]
theorem cat_response (X a b : ByteArray) : catW X [⟨#[114, 101, 115, 112, 111, 110, 115, 101]⟩, a, b] = X ++ ⟨#[32, 114, 101, 115, 112, 111, 110, 115, 101]⟩ ++ (⟨#[32]⟩ ++ a) ++ (⟨#[32]⟩ ++ b) := by rw [catW, catW, catW, catW, sp_response]
theorem cat_cookie (X a : ByteArray) : catW X [⟨#[99, 111, 111, 107, 105, 101]⟩, a] = X ++ ⟨#[32, 99, 111, 111, 107, 105, 101]⟩ ++ (⟨#[32]⟩ ++ a) := by rw [catW, catW, catW, sp_cookie]
theorem cat_data (X a b c : ByteArray) : catW X [⟨#[100, 97, 116, 97]⟩, a, b, c] = X ++ ⟨#[32, 100, 97, 116, 97]⟩ ++ (⟨#[32]⟩ ++ a) ++ (⟨#[32]⟩ ++ b) ++ (⟨#[32]⟩ ++ c) := by rw [catW, catW, catW, catW, catW, sp_data]
theorem tail_cd (cd : Int) (m : Mg) (n : Nat) (h : cd = 0 → 1 ≤ m.k ∧ m.k ≤ 4) :
    (cd = 0 → m.k = 1 → tailW cd m n = [⟨#[105, 110, 105, 116]⟩, decS m.s]) ∧ (cd = 0 → m.k = 2 → tailW cd m n = [⟨#[114, 101, 115, 112, 111, 110, 115, 101]⟩, decS m.s, decS m.r]) ∧ (cd = 0 → m.k = 3 → tailW cd m n = [⟨#[99, 111, 111, 107, 105, 101]⟩, decS m.r]) ∧
    (cd = 0 → ¬ m.k = 1 → ¬ m.k = 2 → ¬ m.k = 3 → tailW cd m n = [⟨#[100, 97, 116, 97]⟩, decS m.r, decS m.c, sealW m.x10]) ∧ (¬ cd = 0 → tailW cd m n = [⟨#[114, 97, 119]⟩, decS n]) := by
  unfold tailW
  refine ⟨fun e0 e => by rw [if_pos e0, if_pos e], fun e0 e => by rw [if_pos e0, if_neg (by omega), if_pos e], fun e0 e => by rw [if_pos e0, if_neg (by omega), if_neg (by omega), if_pos e], fun e0 e1 e2 e3 => by rw [if_pos e0, if_neg e1, if_neg e2, if_neg e3], fun e => by rw [if_neg e]⟩
theorem decS_size1 (n : Nat) (h : n < 18446744073709551616) : (decS n).size ≤ 100001 := Nat.le_trans (decS_size n h) (by decide)
theorem wordS_size (n : Nat) (h : n < 18446744073709551616) : (wordS n).size ≤ 100001 := by
  have h1 := decS_size n h
  unfold wordS
  rw [ByteArray.size_append]
  have h2 : (⟨#[32]⟩ : ByteArray).size = 1 := rfl
  omega
theorem print_refd (w : World) (n : Nat) (hn : n < 18446744073709551616) : Calls Tryd.prog 37 #[.int .u64 (n : Nat)] w (SWPost (decS n) w) := print_ref n hn w
theorem rd_lt {w : World} {N : List Nat} {g o n cap : Nat} {xs : List Value} (h : Rd w N (.slice (some ⟨g, o, none⟩) n cap) xs) (h0 : xs ≠ []) : g < w.heap.size := by
  obtain ⟨A, c, hv, _, _, h⟩ := h
  injection hv with e1 _ _
  rcases h with h | ⟨g', o', hA, _, hl, _⟩
  · exact absurd h h0
  · rw [← e1] at hA
    injection hA with hA
    injection hA with e _
    rw [e]; exact hl
end
section
open Go.RowKit Go.Deep

theorem lowV_drop (q : List UInt8) (j : Nat) (hj : j < q.length) : lowV (q.drop j) = (q.getD j 0).toNat + 256 * lowV (q.drop (j + 1)) := by
  rw [List.drop_eq_getElem_cons hj, lowV]
  simp [List.getElem?_eq_getElem hj]
set_option maxRecDepth 100000 in
theorem low_step (u b n : Nat) (hu : u < 256 ^ n) (hn : n ≤ 7) (hb : b < 256) : IntKind.u64.wrap (IntKind.u64.wrap (256 * (u : Int)) + (b : Int)) = ((b + 256 * u : Nat) : Int) := by
  have h7 : 256 ^ n ≤ 256 ^ 7 := Nat.pow_le_pow_right (by decide) hn
  have e7 : 256 ^ 7 = 72057594037927936 := by decide
  rw [e7] at h7
  have hlt : u < 72057594037927936 := by omega
  clear hu h7 e7
  have w1 : IntKind.u64.wrap (256 * (u : Int)) = 256 * u := by rw [IntKind.wrap_u64]; omega
  rw [w1, IntKind.wrap_u64]
  omega

set_option maxRecDepth 100000 in
set_option maxHeartbeats 3200000 in
theorem value_w (w : World) (N : List Nat) (v : Value) (q : List UInt8) (hq : q.length ≤ 8) (h : Rd w N v (ints .u8 (byts q))) :
    Calls Tryd.prog 66 #[v] w fun e w' => e = .returned (.int .u64 (lowV q : Nat)) ∧ w = w' := by
  obtain ⟨A, cap, rfl, hc1, hc2⟩ := h.formb
  obtain ⟨n, hn⟩ : ∃ n, n = q.length := ⟨_, rfl⟩
  have HN := hide hn
  have HR := hide h
  have HQ := hide hq
  rw [← hn] at HR hc1 ⊢
  have hn8 : n ≤ 8 := by omega
  unfold maxLen at hc2
  clear h hq hn
  go_enter Tryd.func66, Tryd.ntmps66
  go_wp2_with fail
  go_loopw [4, 3] (fun i u wr => ∃ j : Nat, j ≤ n ∧ i = .int .i64 ((j : Int) - 1) ∧ u = .int .u64 (lowV (q.drop j) : Nat) ∧ Hid (wr = w)) (fun i _ _ => (intOf i + 1).toNat)
  case atStart => exact ⟨n, Nat.le_refl _, rfl, by rw [List.drop_of_length_le (by have := HN.out; omega)]; rfl, hide rfl⟩
  case round =>
    obtain ⟨j, hj, rfl, rfl, HW⟩ := hrel
    obtain rfl := HW.out
    cases j with
    | zero =>
      have h0 : ¬ (0 : Int) ≤ ((0 : Nat) : Int) - 1 := by omega
      rw [List.drop_zero]
      go_wp2_with fail
      go_ret
      exact ⟨rfl, rfl⟩
    | succ j =>
      have e1 : ((j + 1 : Nat) : Int) - 1 = (j : Int) := by omega
      rw [e1]
      have hjq : j < q.length := by have := HN.out; omega
      have hjn : (j : Int) < n := by omega
      have hjp : (0 : Int) ≤ j := by omega
      obtain ⟨g2, o2, hA, _, hg, hcell⟩ := HR.out.at_.2.2.2 j (.int .u8 (q.getD j 0).toNat) (ints_get (byts_get (by simp [List.getElem?_eq_getElem hjq])))
      cases hA
      have HS := hide (lowV_drop q j hjq)
      have HLT := hide (lowV_lt (q.drop (j + 1)))
      have HLL := hide (show (q.drop (j + 1)).length ≤ 7 by rw [List.length_drop]; have := HQ.out; omega)
      have HBB := hide (q.getD j 0).toNat_lt
      have hwb : IntKind.u64.wrap ((q.getD j 0).toNat : Int) = ((q.getD j 0).toNat : Int) := by have := HBB.out; rw [IntKind.wrap_u64]; omega
      generalize (q.getD j 0).toNat = b at *
      generalize lowV (q.drop (j + 1)) = u at *
      clear hjq
      go_wp2_with fail
      refine ⟨⟨j, by omega, rfl, ?_, (by first | exact hide trivial | exact hide rfl)⟩, (by simp [intOf]; try omega)⟩
      rw [low_step u b _ HLT.out HLL.out HBB.out, HS.out]

set_option maxRecDepth 100000 in
set_option maxHeartbeats 6400000 in
theorem With_1 (w : World) (s r c : Nat) (g o cap : Nat) (x0 x1 x2 x3 x4 : ByteArray) (_hc : 5 ≤ cap) (h0 : w.cell? ⟨g, o, none⟩ = some (.string x0)) (h1 : w.cell? ⟨g, o + 1, none⟩ = some (.string x1)) (h2 : w.cell? ⟨g, o + 2, none⟩ = some (.string x2)) (h3 : w.cell? ⟨g, o + 3, none⟩ = some (.string x3)) (h4 : w.cell? ⟨g, o + 4, none⟩ = some (.string x4)) :
    Calls Tryd.prog 41 #[.int .i64 1, .int .u32 (s : Nat), .int .u32 (r : Nat), .int .u64 (c : Nat), .slice (some ⟨g, o, none⟩) 5 cap] w fun e w' =>
      e = .returned (.agg #[.int .i64 1, .int .u32 (s : Nat), .int .u32 0, .int .u64 0, .string x0, .string x1, .string x2, .string ⟨#[]⟩, .string ⟨#[]⟩, .string ⟨#[]⟩, .string ⟨#[]⟩, .string x3, .string x4]) ∧ Only [] w w' := by
  have hg : g < w.heap.size := by have := World.block_lt_of_cell? w _ h0; simpa using this
  have HRB := hide (Blk.new w 78 #[.int .i64 0, .int .u32 0, .int .u32 0, .int .u64 0, .string ⟨#[]⟩, .string ⟨#[]⟩, .string ⟨#[]⟩, .string ⟨#[]⟩, .string ⟨#[]⟩, .string ⟨#[]⟩, .string ⟨#[]⟩, .string ⟨#[]⟩, .string ⟨#[]⟩])
  have HO := hide ((Only.refl [] w).alloc (.cells #[.int .i64 0, .int .u32 0, .int .u32 0, .int .u64 0, .string ⟨#[]⟩, .string ⟨#[]⟩, .string ⟨#[]⟩, .string ⟨#[]⟩, .string ⟨#[]⟩, .string ⟨#[]⟩, .string ⟨#[]⟩, .string ⟨#[]⟩, .string ⟨#[]⟩] 78))
  have d0 := (cell_only HO.out hg (by simp)).trans h0
  have d1 := (cell_only HO.out hg (by simp)).trans h1
  have d2 := (cell_only HO.out hg (by simp)).trans h2
  have d3 := (cell_only HO.out hg (by simp)).trans h3
  have d4 := (cell_only HO.out hg (by simp)).trans h4
  go_enter Tryd.func41, Tryd.ntmps41
  go_wp2_with fail
  generalize (w.alloc (.cells #[.int .i64 0, .int .u32 0, .int .u32 0, .int .u64 0, .string ⟨#[]⟩, .string ⟨#[]⟩, .string ⟨#[]⟩, .string ⟨#[]⟩, .string ⟨#[]⟩, .string ⟨#[]⟩, .string ⟨#[]⟩, .string ⟨#[]⟩, .string ⟨#[]⟩] 78)) = W at *
  have r0 := HRB.out.cell 0
  have r1 := HRB.out.cell 1
  have r2 := HRB.out.cell 2
  have r3 := HRB.out.cell 3
  have r4 := HRB.out.cell 4
  have r5 := HRB.out.cell 5
  have r6 := HRB.out.cell 6
  have r7 := HRB.out.cell 7
  have r8 := HRB.out.cell 8
  have r9 := HRB.out.cell 9
  have r10 := HRB.out.cell 10
  have r11 := HRB.out.cell 11
  have r12 := HRB.out.cell 12
  simp at r0 r1 r2 r3 r4 r5 r6 r7 r8 r9 r10 r11 r12
  have rf := HRB.out.frozen
  go_still_tail 17, (by kernel_rfl)
  change wpList _ _ _ _ _ W.drew
  go_wp2_with fail
  refine bodyPost_ret (results_cell_row rfl _ _ w.heap.size 78 _ (0, 0) _ rfl ((set13 HRB.out (.int .i64 1) (.int .u32 (s : Nat)) (.int .u32 0) (.int .u64 0) (.string x0) (.string x1) (.string x2) (.string ⟨#[]⟩) (.string ⟨#[]⟩) (.string ⟨#[]⟩) (.string ⟨#[]⟩) (.string x3) (.string x4)).drew) Tryd.underlying78 rfl (by kernel_rfl)) rfl ?_
  exact ⟨rfl, (only13 HO.out (.inr (Nat.le_refl _)) (.int .i64 1) (.int .u32 (s : Nat)) (.int .u32 0) (.int .u64 0) (.string x0) (.string x1) (.string x2) (.string ⟨#[]⟩) (.string ⟨#[]⟩) (.string ⟨#[]⟩) (.string ⟨#[]⟩) (.string x3) (.string x4)).drew⟩

set_option maxRecDepth 100000 in
set_option maxHeartbeats 6400000 in
theorem With_2 (w : World) (s r c : Nat) (g o cap : Nat) (x0 x1 x2 x3 : ByteArray) (_hc : 4 ≤ cap) (h0 : w.cell? ⟨g, o, none⟩ = some (.string x0)) (h1 : w.cell? ⟨g, o + 1, none⟩ = some (.string x1)) (h2 : w.cell? ⟨g, o + 2, none⟩ = some (.string x2)) (h3 : w.cell? ⟨g, o + 3, none⟩ = some (.string x3)) :
    Calls Tryd.prog 41 #[.int .i64 2, .int .u32 (s : Nat), .int .u32 (r : Nat), .int .u64 (c : Nat), .slice (some ⟨g, o, none⟩) 4 cap] w fun e w' =>
      e = .returned (.agg #[.int .i64 2, .int .u32 (s : Nat), .int .u32 (r : Nat), .int .u64 0, .string x0, .string ⟨#[]⟩, .string ⟨#[]⟩, .string x1, .string ⟨#[]⟩, .string ⟨#[]⟩, .string ⟨#[]⟩, .string x2, .string x3]) ∧ Only [] w w' := by
  have hg : g < w.heap.size := by have := World.block_lt_of_cell? w _ h0; simpa using this
  have HRB := hide (Blk.new w 78 #[.int .i64 0, .int .u32 0, .int .u32 0, .int .u64 0, .string ⟨#[]⟩, .string ⟨#[]⟩, .string ⟨#[]⟩, .string ⟨#[]⟩, .string ⟨#[]⟩, .string ⟨#[]⟩, .string ⟨#[]⟩, .string ⟨#[]⟩, .string ⟨#[]⟩])
  have HO := hide ((Only.refl [] w).alloc (.cells #[.int .i64 0, .int .u32 0, .int .u32 0, .int .u64 0, .string ⟨#[]⟩, .string ⟨#[]⟩, .string ⟨#[]⟩, .string ⟨#[]⟩, .string ⟨#[]⟩, .string ⟨#[]⟩, .string ⟨#[]⟩, .string ⟨#[]⟩, .string ⟨#[]⟩] 78))
  have d0 := (cell_only HO.out hg (by simp)).trans h0
  have d1 := (cell_only HO.out hg (by simp)).trans h1
  have d2 := (cell_only HO.out hg (by simp)).trans h2
  have d3 := (cell_only HO.out hg (by simp)).trans h3
  go_enter Tryd.func41, Tryd.ntmps41
  go_wp2_with fail
  generalize (w.alloc (.cells #[.int .i64 0, .int .u32 0, .int .u32 0, .int .u64 0, .string ⟨#[]⟩, .string ⟨#[]⟩, .string ⟨#[]⟩, .string ⟨#[]⟩, .string ⟨#[]⟩, .string ⟨#[]⟩, .string ⟨#[]⟩, .string ⟨#[]⟩, .string ⟨#[]⟩] 78)) = W at *
  have r0 := HRB.out.cell 0
  have r1 := HRB.out.cell 1
  have r2 := HRB.out.cell 2
  have r3 := HRB.out.cell 3
  have r4 := HRB.out.cell 4
  have r5 := HRB.out.cell 5
  have r6 := HRB.out.cell 6
  have r7 := HRB.out.cell 7
  have r8 := HRB.out.cell 8
  have r9 := HRB.out.cell 9
  have r10 := HRB.out.cell 10
  have r11 := HRB.out.cell 11
  have r12 := HRB.out.cell 12
  simp at r0 r1 r2 r3 r4 r5 r6 r7 r8 r9 r10 r11 r12
  have rf := HRB.out.frozen
  go_still_tail 15, (by kernel_rfl)
  change wpList _ _ _ _ _ W.drew
  go_wp2_with fail
  refine bodyPost_ret (results_cell_row rfl _ _ w.heap.size 78 _ (0, 0) _ rfl ((set13 HRB.out (.int .i64 2) (.int .u32 (s : Nat)) (.int .u32 (r : Nat)) (.int .u64 0) (.string x0) (.string ⟨#[]⟩) (.string ⟨#[]⟩) (.string x1) (.string ⟨#[]⟩) (.string ⟨#[]⟩) (.string ⟨#[]⟩) (.string x2) (.string x3)).drew) Tryd.underlying78 rfl (by kernel_rfl)) rfl ?_
  exact ⟨rfl, (only13 HO.out (.inr (Nat.le_refl _)) (.int .i64 2) (.int .u32 (s : Nat)) (.int .u32 (r : Nat)) (.int .u64 0) (.string x0) (.string ⟨#[]⟩) (.string ⟨#[]⟩) (.string x1) (.string ⟨#[]⟩) (.string ⟨#[]⟩) (.string ⟨#[]⟩) (.string x2) (.string x3)).drew⟩

set_option maxRecDepth 100000 in
set_option maxHeartbeats 6400000 in
theorem With_3 (w : World) (s r c : Nat) (g o cap : Nat) (x0 x1 : ByteArray) (_hc : 2 ≤ cap) (h0 : w.cell? ⟨g, o, none⟩ = some (.string x0)) (h1 : w.cell? ⟨g, o + 1, none⟩ = some (.string x1)) :
    Calls Tryd.prog 41 #[.int .i64 3, .int .u32 (s : Nat), .int .u32 (r : Nat), .int .u64 (c : Nat), .slice (some ⟨g, o, none⟩) 2 cap] w fun e w' =>
      e = .returned (.agg #[.int .i64 3, .int .u32 0, .int .u32 (r : Nat), .int .u64 0, .string ⟨#[]⟩, .string ⟨#[]⟩, .string ⟨#[]⟩, .string ⟨#[]⟩, .string x0, .string x1, .string ⟨#[]⟩, .string ⟨#[]⟩, .string ⟨#[]⟩]) ∧ Only [] w w' := by
  have hg : g < w.heap.size := by have := World.block_lt_of_cell? w _ h0; simpa using this
  have HRB := hide (Blk.new w 78 #[.int .i64 0, .int .u32 0, .int .u32 0, .int .u64 0, .string ⟨#[]⟩, .string ⟨#[]⟩, .string ⟨#[]⟩, .string ⟨#[]⟩, .string ⟨#[]⟩, .string ⟨#[]⟩, .string ⟨#[]⟩, .string ⟨#[]⟩, .string ⟨#[]⟩])
  have HO := hide ((Only.refl [] w).alloc (.cells #[.int .i64 0, .int .u32 0, .int .u32 0, .int .u64 0, .string ⟨#[]⟩, .string ⟨#[]⟩, .string ⟨#[]⟩, .string ⟨#[]⟩, .string ⟨#[]⟩, .string ⟨#[]⟩, .string ⟨#[]⟩, .string ⟨#[]⟩, .string ⟨#[]⟩] 78))
  have d0 := (cell_only HO.out hg (by simp)).trans h0
  have d1 := (cell_only HO.out hg (by simp)).trans h1
  go_enter Tryd.func41, Tryd.ntmps41
  go_wp2_with fail
  generalize (w.alloc (.cells #[.int .i64 0, .int .u32 0, .int .u32 0, .int .u64 0, .string ⟨#[]⟩, .string ⟨#[]⟩, .string ⟨#[]⟩, .string ⟨#[]⟩, .string ⟨#[]⟩, .string ⟨#[]⟩, .string ⟨#[]⟩, .string ⟨#[]⟩, .string ⟨#[]⟩] 78)) = W at *
  have r0 := HRB.out.cell 0
  have r1 := HRB.out.cell 1
  have r2 := HRB.out.cell 2
  have r3 := HRB.out.cell 3
  have r4 := HRB.out.cell 4
  have r5 := HRB.out.cell 5
  have r6 := HRB.out.cell 6
  have r7 := HRB.out.cell 7
  have r8 := HRB.out.cell 8
  have r9 := HRB.out.cell 9
  have r10 := HRB.out.cell 10
  have r11 := HRB.out.cell 11
  have r12 := HRB.out.cell 12
  simp at r0 r1 r2 r3 r4 r5 r6 r7 r8 r9 r10 r11 r12
  have rf := HRB.out.frozen
  go_still_tail 8, (by kernel_rfl)
  change wpList _ _ _ _ _ W.drew
  go_wp2_with fail
  refine bodyPost_ret (results_cell_row rfl _ _ w.heap.size 78 _ (0, 0) _ rfl ((set13 HRB.out (.int .i64 3) (.int .u32 0) (.int .u32 (r : Nat)) (.int .u64 0) (.string ⟨#[]⟩) (.string ⟨#[]⟩) (.string ⟨#[]⟩) (.string ⟨#[]⟩) (.string x0) (.string x1) (.string ⟨#[]⟩) (.string ⟨#[]⟩) (.string ⟨#[]⟩)).drew) Tryd.underlying78 rfl (by kernel_rfl)) rfl ?_
  exact ⟨rfl, (only13 HO.out (.inr (Nat.le_refl _)) (.int .i64 3) (.int .u32 0) (.int .u32 (r : Nat)) (.int .u64 0) (.string ⟨#[]⟩) (.string ⟨#[]⟩) (.string ⟨#[]⟩) (.string ⟨#[]⟩) (.string x0) (.string x1) (.string ⟨#[]⟩) (.string ⟨#[]⟩) (.string ⟨#[]⟩)).drew⟩

set_option maxRecDepth 100000 in
set_option maxHeartbeats 6400000 in
theorem With_4 (w : World) (s r c : Nat) (g o cap : Nat) (x0 : ByteArray) (_hc : 1 ≤ cap) (h0 : w.cell? ⟨g, o, none⟩ = some (.string x0)) :
    Calls Tryd.prog 41 #[.int .i64 4, .int .u32 (s : Nat), .int .u32 (r : Nat), .int .u64 (c : Nat), .slice (some ⟨g, o, none⟩) 1 cap] w fun e w' =>
      e = .returned (.agg #[.int .i64 4, .int .u32 0, .int .u32 (r : Nat), .int .u64 (c : Nat), .string ⟨#[]⟩, .string ⟨#[]⟩, .string ⟨#[]⟩, .string ⟨#[]⟩, .string ⟨#[]⟩, .string ⟨#[]⟩, .string x0, .string ⟨#[]⟩, .string ⟨#[]⟩]) ∧ Only [] w w' := by
  have hg : g < w.heap.size := by have := World.block_lt_of_cell? w _ h0; simpa using this
  have HRB := hide (Blk.new w 78 #[.int .i64 0, .int .u32 0, .int .u32 0, .int .u64 0, .string ⟨#[]⟩, .string ⟨#[]⟩, .string ⟨#[]⟩, .string ⟨#[]⟩, .string ⟨#[]⟩, .string ⟨#[]⟩, .string ⟨#[]⟩, .string ⟨#[]⟩, .string ⟨#[]⟩])
  have HO := hide ((Only.refl [] w).alloc (.cells #[.int .i64 0, .int .u32 0, .int .u32 0, .int .u64 0, .string ⟨#[]⟩, .string ⟨#[]⟩, .string ⟨#[]⟩, .string ⟨#[]⟩, .string ⟨#[]⟩, .string ⟨#[]⟩, .string ⟨#[]⟩, .string ⟨#[]⟩, .string ⟨#[]⟩] 78))
  have d0 := (cell_only HO.out hg (by simp)).trans h0
  go_enter Tryd.func41, Tryd.ntmps41
  go_upto_region 8 with fail
  generalize (w.alloc (.cells #[.int .i64 0, .int .u32 0, .int .u32 0, .int .u64 0, .string ⟨#[]⟩, .string ⟨#[]⟩, .string ⟨#[]⟩, .string ⟨#[]⟩, .string ⟨#[]⟩, .string ⟨#[]⟩, .string ⟨#[]⟩, .string ⟨#[]⟩, .string ⟨#[]⟩] 78)) = W at *
  have r0 := HRB.out.cell 0
  have r1 := HRB.out.cell 1
  have r2 := HRB.out.cell 2
  have r3 := HRB.out.cell 3
  have r4 := HRB.out.cell 4
  have r5 := HRB.out.cell 5
  have r6 := HRB.out.cell 6
  have r7 := HRB.out.cell 7
  have r8 := HRB.out.cell 8
  have r9 := HRB.out.cell 9
  have r10 := HRB.out.cell 10
  have r11 := HRB.out.cell 11
  have r12 := HRB.out.cell 12
  simp at r0 r1 r2 r3 r4 r5 r6 r7 r8 r9 r10 r11 r12
  have rf := HRB.out.frozen
  go_wp2_with fail
  refine bodyPost_ret (results_cell_row rfl _ _ w.heap.size 78 _ (0, 0) _ rfl ((set13 HRB.out (.int .i64 4) (.int .u32 0) (.int .u32 (r : Nat)) (.int .u64 (c : Nat)) (.string ⟨#[]⟩) (.string ⟨#[]⟩) (.string ⟨#[]⟩) (.string ⟨#[]⟩) (.string ⟨#[]⟩) (.string ⟨#[]⟩) (.string x0) (.string ⟨#[]⟩) (.string ⟨#[]⟩))) Tryd.underlying78 rfl (by kernel_rfl)) rfl ?_
  exact ⟨rfl, (only13 HO.out (.inr (Nat.le_refl _)) (.int .i64 4) (.int .u32 0) (.int .u32 (r : Nat)) (.int .u64 (c : Nat)) (.string ⟨#[]⟩) (.string ⟨#[]⟩) (.string ⟨#[]⟩) (.string ⟨#[]⟩) (.string ⟨#[]⟩) (.string ⟨#[]⟩) (.string x0) (.string ⟨#[]⟩) (.string ⟨#[]⟩))⟩
end
end Go.Proofs.YteoifokmbkpbnaaDoor

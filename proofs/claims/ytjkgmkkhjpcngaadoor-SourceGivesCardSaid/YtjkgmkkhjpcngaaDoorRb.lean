/-
  The reference's reading of an Atom's text: leaf, term, Read, Is, by walking.
-/
import Derived.Test.YtjkgmkkhjpcngaaDoorRa
namespace Go.Proofs.YtjkgmkkhjpcngaaDoor
open Go.RowKit Go.Deep

abbrev nz : Array Value := #[.int .i64 0, .int .u64 0, .slice none 0 0, .slice none 0 0]
abbrev atomC (n : Nat) : Array Value := #[.int .i64 2, .int .u64 (n : Int), .slice none 0 0, .slice none 0 0]
theorem only_four {S : List Nat} {w w' : World} {B : Nat} {x y z u : Value} (h : Only S w w') (hB : B ∈ S ∨ w.heap.size ≤ B) :
    Only S w ((((w'.setCell ⟨B, 0, none⟩ x).setCell ⟨B, 1, none⟩ y).setCell ⟨B, 2, none⟩ z).setCell ⟨B, 3, none⟩ u) :=
  (((h.setCell (p := ⟨B, 0, none⟩) hB x).setCell (p := ⟨B, 1, none⟩) hB y).setCell (p := ⟨B, 2, none⟩) hB z).setCell (p := ⟨B, 3, none⟩) hB u
theorem refread_atom (s : ByteArray) (n : Nat) (h : AtT s n) (w : World) : Calls Tryd.prog 11 #[.string (s.extract 1 s.size)] w fun e w' => e = .returned (.tuple #[.int .u64 n, .int .i64 0]) ∧ w = w' := by
  have hs : (s.extract 1 s.size).size ≤ 1000000 := by
    have := h.few
    rw [ByteArray.size_extract]
    omega
  refine (read_ref w (s.extract 1 s.size) hs).mono fun e w' hp => ?_
  unfold NumRPost' at hp
  rw [h.read] at hp
  exact hp

set_option maxRecDepth 100000 in
set_option maxHeartbeats 3200000 in
theorem leaf_two (s : ByteArray) (n : Nat) (h : AtT s n) (w : World) : Calls Tryd.prog 94 #[.string s, .int .i64 1, .int .i64 2] w fun e w' => e = .returned (.tuple #[.agg (atomC n), .int .i64 s.size]) ∧ Only [] w w' := by
  have HW := hide (word_ref s n h)
  have HR := hide (refread_atom s n h)
  have hn : ¬ (4294967295 : Int) < n := by have := h.num; omega
  have HB := hide (Blk.new w 128 nz)
  have HO := hide ((Only.refl [] w).alloc (.cells nz 128))
  have r0 := HB.out.cell 0
  have r1 := HB.out.cell 1
  have r2 := HB.out.cell 2
  have r3 := HB.out.cell 3
  have rz := HB.out.frozen
  simp at r0 r1 r2 r3
  clear h
  go_enter Tryd.func94, Tryd.ntmps94
  go_wp2_with (first
    | (go_at_call 95; refine (HW.out _).mono ?_; rintro e w1 ⟨rfl, rfl⟩)
    | (go_at_call 11; refine (HR.out _).mono ?_; rintro e w1 ⟨rfl, rfl⟩))
  refine bodyPost_ret (v := .tuple #[.agg (atomC n), .int .i64 s.size]) ?_ rfl ⟨rfl, ?_⟩
  · simp [results, Tryd.results94, go_sem, r0, r1, r2, r3]
  · exact (Only.refl [] w).alloc _

set_option maxRecDepth 100000 in
set_option maxHeartbeats 3200000 in
theorem term_two (s : ByteArray) (n : Nat) (h : AtT s n) (w : World) : Calls Tryd.prog 90 #[.string s, .int .i64 0] w fun e w' => e = .returned (.tuple #[.agg (atomC n), .int .i64 s.size]) ∧ Only [] w w' := by
  have HA := hide (at_head s n h)
  have HL := hide (leaf_two s n h)
  have HB := hide (Blk.new w 128 nz)
  have HO := hide ((Only.refl [] w).alloc (.cells nz 128))
  clear h
  go_enter Tryd.func90, Tryd.ntmps90
  go_wp2_with (first
    | (go_at_call 93; refine (HA.out _).mono ?_; rintro e w1 ⟨rfl, rfl⟩)
    | (go_at_call 92; refine (kind_two _).mono ?_; rintro e w1 ⟨rfl, rfl⟩)
    | (go_at_call 94; refine (HL.out _).mono ?_; rintro e w1 ⟨rfl, ho⟩; have HO1 := hide (HO.out.trans ho); have hB1 := HB.out.only ho (by simp); have r0 := hB1.cell 0; have r1 := hB1.cell 1; have r2 := hB1.cell 2; have r3 := hB1.cell 3; have rz := hB1.frozen; simp at r0 r1 r2 r3; clear ho hB1))
  refine bodyPost_ret (v := .tuple #[.agg (atomC n), .int .i64 s.size]) ?_ rfl ⟨rfl, ?_⟩
  · simp [results, Tryd.results90, go_sem, r0, r1, r2, r3]
  · exact only_four HO1.out (.inr (Nat.le_refl _))

set_option maxRecDepth 100000 in
set_option maxHeartbeats 3200000 in
theorem read_two (s : ByteArray) (n : Nat) (h : AtT s n) (w : World) : Calls Tryd.prog 81 #[.string s] w fun e w' => e = .returned (.agg (atomC n)) ∧ Only [] w w' := by
  have HT := hide (term_two s n h)
  have h1 : ¬ (65536 : Int) < s.size := by have := h.few; omega
  have HB := hide (Blk.new w 128 nz)
  have HO := hide ((Only.refl [] w).alloc (.cells nz 128))
  clear h
  go_enter Tryd.func81, Tryd.ntmps81
  go_wp2_with (go_at_call 90; refine (HT.out _).mono ?_; rintro e w1 ⟨rfl, ho⟩; have HO1 := hide ((HO.out.trans ho).alloc (.cells (atomC n) 128)); have hB1 := (HB.out.only ho (by simp)).alloc (.cells (atomC n) 128); have hlt := hB1.lt; have hC := Blk.new w1 128 (atomC n); have HNE := hide (show w.heap.size ≠ w1.heap.size from by have := (HB.out.only ho (by simp)).lt; omega); have r0 := hB1.cell 0; have r1 := hB1.cell 1; have r2 := hB1.cell 2; have r3 := hB1.cell 3; have rz := hB1.frozen; have c0 := hC.cell 0; have c1 := hC.cell 1; have c2 := hC.cell 2; have c3 := hC.cell 3; have cz := hC.frozen; simp at r0 r1 r2 r3 c0 c1 c2 c3; clear ho hB1 hC hlt)
  refine bodyPost_ret (v := .agg (atomC n)) ?_ rfl ⟨rfl, ?_⟩
  · simp [results, Tryd.results81, go_sem, r0, r1, r2, r3]
  · exact only_four HO1.out (.inr (Nat.le_refl _))

set_option maxRecDepth 100000 in
theorem is_two (s : ByteArray) (n : Nat) (h : AtT s n) (w : World) : Calls Tryd.prog 71 #[.string s] w fun e w' => e = .returned (.bool true) ∧ Only [] w w' := by
  have HR := hide (show ∀ W, Calls Tryd.prog 81 #[.string s] W fun e w' => e = .returned (.agg #[.int .i64 2, .int .u64 (n : Int), .slice none 0 0, .slice none 0 0]) ∧ Only [] W w' from read_two s n h)
  have hf : ∀ W, (Instr.field 128 (.agg #[.int .i64 2, .int .u64 (n : Int), .slice none 0 0, .slice none 0 0]) 0).run Tryd.prog W = .ok (.int .i64 2) W := fun W => by kernel_rfl
  clear h
  go_enter Tryd.func71, Tryd.ntmps71
  go_wp2_with (go_at_call 81; refine (HR.out _).mono ?_; rintro e w1 ⟨rfl, ho⟩; have HC := hide ho; clear ho)
  go_ret
  exact ⟨rfl, HC.out⟩
end Go.Proofs.YtjkgmkkhjpcngaaDoor

/-
  The source's own functions: by walking. Condition: the library's table of powers of ten reads as it was laid (Secret alone).
-/
import Derived.Test.YtjkgmkkhjpcngaaDoorMake
namespace Go.Proofs.YtjkgmkkhjpcngaaDoor
open Go.RowKit Go.Deep

abbrev srcC (a i m : Nat) : Array Value := #[.int .u32 (a : Int), .int .u32 (i : Int), .int .u64 (m : Int)]
abbrev SrcIs (w : World) (g a i m : Nat) : Prop := Blk w g 73 (srcC a i m)

theorem src_new (a i : Nat) (w : World) : Calls Tryd.prog 29 #[.int .u32 (a : Int), .int .u32 (i : Int)] w fun e w' => e = .returned (.pointer (some ⟨w.heap.size, 0, none⟩)) ∧ w' = w.alloc (.cells (srcC a i 0) 73) := by
  go_enter Tryd.func29, Tryd.ntmps29
  go_wp2
  go_ret
  exact ⟨rfl, rfl⟩

theorem take_end (w : World) (g o : Nat) (h : w.cell? ⟨g, o, none⟩ = some (.int .u32 4294967295)) :
    Calls Tryd.prog 46 #[.pointer (some ⟨g, o, none⟩)] w fun e w' => e = .returned (.tuple #[.int .u32 0, .bool false]) ∧ w = w' := by
  go_enter Tryd.func46, Tryd.ntmps46
  go_wp2
  go_ret2
  exact ⟨rfl, rfl⟩
theorem take_more (w : World) (g o n : Nat) (hn : n < 4294967295) (h : w.cell? ⟨g, o, none⟩ = some (.int .u32 (n : Int))) (hf : w.frozen? ⟨g, o, none⟩ = false) :
    Calls Tryd.prog 46 #[.pointer (some ⟨g, o, none⟩)] w fun e w' => e = .returned (.tuple #[.int .u32 (n : Int), .bool true]) ∧ w' = w.setCell ⟨g, o, none⟩ (.int .u32 ((n + 1 : Nat) : Int)) := by
  have hne : ((n : Int) == 4294967295) = false := by rw [beq_eq_false_iff_ne]; omega
  have hw : IntKind.u32.wrap ((n : Int) + 1) = (n : Int) + 1 := by rw [IntKind.wrap_u32]; omega
  go_enter Tryd.func46, Tryd.ntmps46
  go_wp2
  go_ret2
  exact ⟨rfl, rfl⟩
end Go.Proofs.YtjkgmkkhjpcngaaDoor

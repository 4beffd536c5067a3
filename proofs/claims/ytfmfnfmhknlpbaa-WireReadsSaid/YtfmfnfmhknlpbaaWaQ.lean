/-
  Words of layer 6 (wire), and its smallest functions: by walking. No condition.
-/
import Derived.Test.YtfmfnfmhknlpbaaChecked
import Derived.Test.YtfmfnfmhknlpbaaZA
namespace Go.Proofs.Ytfmfnfmhknlpbaa
open Go.RowKit Go.Deep

/-- A function without captured places, as a value. -/
abbrev fnV (f : FuncId) : Value := .func (.func f) #[] #[]
/-- A field of four bytes, whose place is told by the closure in the block b. -/
abbrev numF (b : Nat) : Value := .agg #[.int .i64 4, .func (.func 70) #[] #[.pointer (some ⟨b, 0, none⟩)], .func (.func 71) #[] #[.pointer (some ⟨b, 0, none⟩)], .nilFunc]
def numC (b : Nat) : List Value := [.int .i64 4, .func (.func 70) #[] #[.pointer (some ⟨b, 0, none⟩)], .func (.func 71) #[] #[.pointer (some ⟨b, 0, none⟩)], .nilFunc]

set_option maxHeartbeats 1600000 in
theorem wnumber_any (f : FuncId) (w : World) : Calls Try.prog 46 #[fnV f] w fun e w' => e = .returned (numF w.heap.size) ∧ Blk w' w.heap.size 91 #[fnV f] ∧ w.heap.size < w'.heap.size ∧ Only [] w w' := by
  have hst := fun (W : World) (a : Addr) (fn : Fn) (c : Array Value) => (run_store Try.prog W a (.func fn #[] c) .plain rfl : (store a (.func fn #[] c)).run Try.prog W = stored Try.prog W a (.func fn #[] c) .plain)
  have hsn := fun (W : World) (a : Addr) => (run_store Try.prog W a .nilFunc .plain rfl : (store a .nilFunc).run Try.prog W = stored Try.prog W a .nilFunc .plain)
  have HB := hide ((Blk.new w 91 #[fnV f]).alloc (.cells (numC w.heap.size).toArray 63))
  have HF := hide (Blk.new (w.alloc (.cells #[fnV f] 91)) 63 (numC w.heap.size).toArray)
  rw [World.size_alloc] at HF
  have HO := hide (((Only.refl [] w).alloc (.cells #[fnV f] 91)).alloc (.cells (numC w.heap.size).toArray 63))
  go_enter Try.func46, Try.ntmps46
  go_wp2
  refine bodyPost_ret (results_cell_row rfl _ _ (w.heap.size + 1) 63 _ (0, 0) _ rfl HF.out Try.underlying63 rfl (by kernel_rfl)) rfl ?_
  exact ⟨rfl, HB.out, (by simp; omega), HO.out⟩
set_option maxRecDepth 100000 in
theorem numget1 (M b : Nat) (x : Nat) (w : World) (h : w.cell? ⟨b, 0, none⟩ = some (fnV 47)) (h2 : w.cell? ⟨M, 1, none⟩ = some (.int .u32 x)) (hx : x < 4294967296) :
    Calls Try.prog 70 #[.pointer (some ⟨M, 0, none⟩), .pointer (some ⟨b, 0, none⟩)] w fun e w' => e = .returned (.int .u64 x) ∧ w = w' := by
  have hw : IntKind.u64.wrap (x : Int) = x := by rw [IntKind.wrap_u64]; omega
  clear hx
  go_enter Try.func70, Try.ntmps70
  go_wp2
  go_ret
  exact ⟨rfl, rfl⟩
set_option maxRecDepth 100000 in
theorem numset1 (M b : Nat) (x : Nat) (w : World) (h : w.cell? ⟨b, 0, none⟩ = some (fnV 47)) {y : Nat} (h2 : w.cell? ⟨M, 1, none⟩ = some (.int .u32 y)) (hf : w.frozen? ⟨M, 1, none⟩ = false) (hx : x < 4294967296) :
    Calls Try.prog 71 #[.pointer (some ⟨M, 0, none⟩), .int .u64 x, .pointer (some ⟨b, 0, none⟩)] w fun e w' => e = .returned (.tuple #[]) ∧ w' = w.setCell ⟨M, 1, none⟩ (.int .u32 x) := by
  have hw : IntKind.u32.wrap (x : Int) = x := by rw [IntKind.wrap_u32]; omega
  clear hx
  go_enter Try.func71, Try.ntmps71
  go_wp2
  go_end0
  exact ⟨rfl, rfl⟩
set_option maxRecDepth 100000 in
theorem numget2 (M b : Nat) (x : Nat) (w : World) (h : w.cell? ⟨b, 0, none⟩ = some (fnV 48)) (h2 : w.cell? ⟨M, 2, none⟩ = some (.int .u32 x)) (hx : x < 4294967296) :
    Calls Try.prog 70 #[.pointer (some ⟨M, 0, none⟩), .pointer (some ⟨b, 0, none⟩)] w fun e w' => e = .returned (.int .u64 x) ∧ w = w' := by
  have hw : IntKind.u64.wrap (x : Int) = x := by rw [IntKind.wrap_u64]; omega
  clear hx
  go_enter Try.func70, Try.ntmps70
  go_wp2
  go_ret
  exact ⟨rfl, rfl⟩
set_option maxRecDepth 100000 in
theorem numset2 (M b : Nat) (x : Nat) (w : World) (h : w.cell? ⟨b, 0, none⟩ = some (fnV 48)) {y : Nat} (h2 : w.cell? ⟨M, 2, none⟩ = some (.int .u32 y)) (hf : w.frozen? ⟨M, 2, none⟩ = false) (hx : x < 4294967296) :
    Calls Try.prog 71 #[.pointer (some ⟨M, 0, none⟩), .int .u64 x, .pointer (some ⟨b, 0, none⟩)] w fun e w' => e = .returned (.tuple #[]) ∧ w' = w.setCell ⟨M, 2, none⟩ (.int .u32 x) := by
  have hw : IntKind.u32.wrap (x : Int) = x := by rw [IntKind.wrap_u32]; omega
  clear hx
  go_enter Try.func71, Try.ntmps71
  go_wp2
  go_end0
  exact ⟨rfl, rfl⟩
theorem place1 (M : Nat) (w : World) : Calls Try.prog 47 #[.pointer (some ⟨M, 0, none⟩)] w fun e w' => e = .returned (.pointer (some ⟨M, 1, none⟩)) ∧ w = w' := by
  go_enter Try.func47, Try.ntmps47
  go_wp2
  go_ret
  exact ⟨rfl, rfl⟩
theorem place2 (M : Nat) (w : World) : Calls Try.prog 48 #[.pointer (some ⟨M, 0, none⟩)] w fun e w' => e = .returned (.pointer (some ⟨M, 2, none⟩)) ∧ w = w' := by
  go_enter Try.func48, Try.ntmps48
  go_wp2
  go_ret
  exact ⟨rfl, rfl⟩
theorem place4 (M : Nat) (w : World) : Calls Try.prog 49 #[.pointer (some ⟨M, 0, none⟩)] w fun e w' => e = .returned (.pointer (some ⟨M, 4, none⟩)) ∧ w = w' := by
  go_enter Try.func49, Try.ntmps49
  go_wp2
  go_ret
  exact ⟨rfl, rfl⟩
theorem place11 (M : Nat) (w : World) : Calls Try.prog 50 #[.pointer (some ⟨M, 0, none⟩)] w fun e w' => e = .returned (.pointer (some ⟨M, 11, none⟩)) ∧ w = w' := by
  go_enter Try.func50, Try.ntmps50
  go_wp2
  go_ret
  exact ⟨rfl, rfl⟩
theorem place12 (M : Nat) (w : World) : Calls Try.prog 51 #[.pointer (some ⟨M, 0, none⟩)] w fun e w' => e = .returned (.pointer (some ⟨M, 12, none⟩)) ∧ w = w' := by
  go_enter Try.func51, Try.ntmps51
  go_wp2
  go_ret
  exact ⟨rfl, rfl⟩
theorem place5 (M : Nat) (w : World) : Calls Try.prog 52 #[.pointer (some ⟨M, 0, none⟩)] w fun e w' => e = .returned (.pointer (some ⟨M, 5, none⟩)) ∧ w = w' := by
  go_enter Try.func52, Try.ntmps52
  go_wp2
  go_ret
  exact ⟨rfl, rfl⟩
theorem place6 (M : Nat) (w : World) : Calls Try.prog 53 #[.pointer (some ⟨M, 0, none⟩)] w fun e w' => e = .returned (.pointer (some ⟨M, 6, none⟩)) ∧ w = w' := by
  go_enter Try.func53, Try.ntmps53
  go_wp2
  go_ret
  exact ⟨rfl, rfl⟩
theorem place7 (M : Nat) (w : World) : Calls Try.prog 54 #[.pointer (some ⟨M, 0, none⟩)] w fun e w' => e = .returned (.pointer (some ⟨M, 7, none⟩)) ∧ w = w' := by
  go_enter Try.func54, Try.ntmps54
  go_wp2
  go_ret
  exact ⟨rfl, rfl⟩
theorem place8 (M : Nat) (w : World) : Calls Try.prog 55 #[.pointer (some ⟨M, 0, none⟩)] w fun e w' => e = .returned (.pointer (some ⟨M, 8, none⟩)) ∧ w = w' := by
  go_enter Try.func55, Try.ntmps55
  go_wp2
  go_ret
  exact ⟨rfl, rfl⟩
theorem place9 (M : Nat) (w : World) : Calls Try.prog 56 #[.pointer (some ⟨M, 0, none⟩)] w fun e w' => e = .returned (.pointer (some ⟨M, 9, none⟩)) ∧ w = w' := by
  go_enter Try.func56, Try.ntmps56
  go_wp2
  go_ret
  exact ⟨rfl, rfl⟩
theorem place10 (M : Nat) (w : World) : Calls Try.prog 59 #[.pointer (some ⟨M, 0, none⟩)] w fun e w' => e = .returned (.pointer (some ⟨M, 10, none⟩)) ∧ w = w' := by
  go_enter Try.func59, Try.ntmps59
  go_wp2
  go_ret
  exact ⟨rfl, rfl⟩
set_option maxHeartbeats 1600000 in
theorem cntget (M : Nat) (x : Nat) (w : World) (h2 : w.cell? ⟨M, 3, none⟩ = some (.int .u64 x)) :
    Calls Try.prog 57 #[.pointer (some ⟨M, 0, none⟩)] w fun e w' => e = .returned (.int .u64 x) ∧ w = w' := by
  go_enter Try.func57, Try.ntmps57
  go_wp2
  go_ret
  exact ⟨rfl, rfl⟩
theorem cntset (M : Nat) (x : Nat) (w : World) {y : Nat} (h2 : w.cell? ⟨M, 3, none⟩ = some (.int .u64 y)) (hf : w.frozen? ⟨M, 3, none⟩ = false) :
    Calls Try.prog 58 #[.pointer (some ⟨M, 0, none⟩), .int .u64 x] w fun e w' => e = .returned (.tuple #[]) ∧ w' = w.setCell ⟨M, 3, none⟩ (.int .u64 x) := by
  go_enter Try.func58, Try.ntmps58
  go_wp2
  go_end0
  exact ⟨rfl, rfl⟩
end Go.Proofs.Ytfmfnfmhknlpbaa

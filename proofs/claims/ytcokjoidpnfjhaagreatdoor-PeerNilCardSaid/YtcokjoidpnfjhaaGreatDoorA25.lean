/-
  Walks and plain words (texts Py4). No condition beyond those that each theorem states.
-/
import Derived.Test.YtcokjoidpnfjhaaGreatDoorA24
namespace Go.Proofs.YtcokjoidpnfjhaaGreatDoor
section
open Go.RowKit Go.Deep

set_option maxRecDepth 100000 in
set_option maxHeartbeats 12800000 in
theorem knock_nil (w : World) (t : Int) (s : ByteArray) (v : Value) : Calls Tryz.prog 9 #[.pointer none, .int .i64 t, .string s, v] w fun e w' => e = .returned (.tuple #[.agg #[.int .i64 0, .int .u32 0, .int .u32 0, .int .u64 0, .string ⟨#[]⟩, .string ⟨#[]⟩, .string ⟨#[]⟩, .string ⟨#[]⟩, .string ⟨#[]⟩, .string ⟨#[]⟩, .string ⟨#[]⟩, .string ⟨#[]⟩, .string ⟨#[]⟩], .int .i64 1]) ∧ Only [] w w' := by
  have HO := hide ((Only.refl [] w).alloc (.cells #[.int .i64 0, .int .u32 0, .int .u32 0, .int .u64 0, .string ⟨#[]⟩, .string ⟨#[]⟩, .string ⟨#[]⟩, .string ⟨#[]⟩, .string ⟨#[]⟩, .string ⟨#[]⟩, .string ⟨#[]⟩, .string ⟨#[]⟩, .string ⟨#[]⟩] 29))
  have HZ := hide (Blk.new w 29 #[.int .i64 0, .int .u32 0, .int .u32 0, .int .u64 0, .string ⟨#[]⟩, .string ⟨#[]⟩, .string ⟨#[]⟩, .string ⟨#[]⟩, .string ⟨#[]⟩, .string ⟨#[]⟩, .string ⟨#[]⟩, .string ⟨#[]⟩, .string ⟨#[]⟩])
  have zf := HZ.out.frozen
  go_enter Tryz.func9, Tryz.ntmps9
  go_upto_region 2 with fail
  generalize (w.alloc (.cells #[.int .i64 0, .int .u32 0, .int .u32 0, .int .u64 0, .string ⟨#[]⟩, .string ⟨#[]⟩, .string ⟨#[]⟩, .string ⟨#[]⟩, .string ⟨#[]⟩, .string ⟨#[]⟩, .string ⟨#[]⟩, .string ⟨#[]⟩, .string ⟨#[]⟩] 29)) = w1 at *
  (iterate 4 go_step)
  first | refine wp_store_mid _ _ _ rfl (w.heap.size) 0 #[.int .i64 0, .int .u32 0, .int .u32 0, .int .u64 0, .string ⟨#[]⟩, .string ⟨#[]⟩, .string ⟨#[]⟩, .string ⟨#[]⟩, .string ⟨#[]⟩, .string ⟨#[]⟩, .string ⟨#[]⟩, .string ⟨#[]⟩, .string ⟨#[]⟩] rfl rfl (blk_there HZ.out _ rfl) (by kernel_rfl) (by simp [Value.oneCell']) ?_ | refine wpList_store_mid rfl _ _ _ rfl (w.heap.size) 0 #[.int .i64 0, .int .u32 0, .int .u32 0, .int .u64 0, .string ⟨#[]⟩, .string ⟨#[]⟩, .string ⟨#[]⟩, .string ⟨#[]⟩, .string ⟨#[]⟩, .string ⟨#[]⟩, .string ⟨#[]⟩, .string ⟨#[]⟩, .string ⟨#[]⟩] rfl rfl (blk_there HZ.out _ rfl) (by kernel_rfl) (by simp [Value.oneCell']) ?_
  replace HZ := hide (show Blk (w1.setCells (w.heap.size) 0 [.int .i64 0, .int .u32 0, .int .u32 0, .int .u64 0, .string ⟨#[]⟩, .string ⟨#[]⟩, .string ⟨#[]⟩, .string ⟨#[]⟩, .string ⟨#[]⟩, .string ⟨#[]⟩, .string ⟨#[]⟩, .string ⟨#[]⟩, .string ⟨#[]⟩]) _ _ #[.int .i64 0, .int .u32 0, .int .u32 0, .int .u64 0, .string ⟨#[]⟩, .string ⟨#[]⟩, .string ⟨#[]⟩, .string ⟨#[]⟩, .string ⟨#[]⟩, .string ⟨#[]⟩, .string ⟨#[]⟩, .string ⟨#[]⟩, .string ⟨#[]⟩] from blk_stored HZ.out [.int .i64 0, .int .u32 0, .int .u32 0, .int .u64 0, .string ⟨#[]⟩, .string ⟨#[]⟩, .string ⟨#[]⟩, .string ⟨#[]⟩, .string ⟨#[]⟩, .string ⟨#[]⟩, .string ⟨#[]⟩, .string ⟨#[]⟩, .string ⟨#[]⟩] rfl)
  replace HO := hide (show Only [] w (w1.setCells (w.heap.size) 0 [.int .i64 0, .int .u32 0, .int .u32 0, .int .u64 0, .string ⟨#[]⟩, .string ⟨#[]⟩, .string ⟨#[]⟩, .string ⟨#[]⟩, .string ⟨#[]⟩, .string ⟨#[]⟩, .string ⟨#[]⟩, .string ⟨#[]⟩, .string ⟨#[]⟩]) from Only.setCells (.inr (by omega)) 0 [.int .i64 0, .int .u32 0, .int .u32 0, .int .u64 0, .string ⟨#[]⟩, .string ⟨#[]⟩, .string ⟨#[]⟩, .string ⟨#[]⟩, .string ⟨#[]⟩, .string ⟨#[]⟩, .string ⟨#[]⟩, .string ⟨#[]⟩, .string ⟨#[]⟩] HO.out)
  dsimp only
  generalize (w1.setCells (w.heap.size) 0 [.int .i64 0, .int .u32 0, .int .u32 0, .int .u64 0, .string ⟨#[]⟩, .string ⟨#[]⟩, .string ⟨#[]⟩, .string ⟨#[]⟩, .string ⟨#[]⟩, .string ⟨#[]⟩, .string ⟨#[]⟩, .string ⟨#[]⟩, .string ⟨#[]⟩]) = w9 at *
  (repeat go_step)
  refine bodyPost_ret (results_cell_two rfl _ _ (w.heap.size) 29 _ (0, 0) _ rfl HZ.out Tryz.underlying29 rfl (by kernel_rfl)) rfl ?_
  exact ⟨rfl, HO.out⟩
set_option maxRecDepth 100000 in
set_option maxHeartbeats 12800000 in
theorem knock_nosrc (w : World) (g : Nat) (t : Int) (s : ByteArray) : Calls Tryz.prog 9 #[.pointer (some ⟨g, 0, none⟩), .int .i64 t, .string s, .pointer none] w fun e w' => e = .returned (.tuple #[.agg #[.int .i64 0, .int .u32 0, .int .u32 0, .int .u64 0, .string ⟨#[]⟩, .string ⟨#[]⟩, .string ⟨#[]⟩, .string ⟨#[]⟩, .string ⟨#[]⟩, .string ⟨#[]⟩, .string ⟨#[]⟩, .string ⟨#[]⟩, .string ⟨#[]⟩], .int .i64 1]) ∧ Only [] w w' := by
  have HO := hide ((Only.refl [] w).alloc (.cells #[.int .i64 0, .int .u32 0, .int .u32 0, .int .u64 0, .string ⟨#[]⟩, .string ⟨#[]⟩, .string ⟨#[]⟩, .string ⟨#[]⟩, .string ⟨#[]⟩, .string ⟨#[]⟩, .string ⟨#[]⟩, .string ⟨#[]⟩, .string ⟨#[]⟩] 29))
  have HZ := hide (Blk.new w 29 #[.int .i64 0, .int .u32 0, .int .u32 0, .int .u64 0, .string ⟨#[]⟩, .string ⟨#[]⟩, .string ⟨#[]⟩, .string ⟨#[]⟩, .string ⟨#[]⟩, .string ⟨#[]⟩, .string ⟨#[]⟩, .string ⟨#[]⟩, .string ⟨#[]⟩])
  have zf := HZ.out.frozen
  go_enter Tryz.func9, Tryz.ntmps9
  go_upto_region 2 with fail
  generalize (w.alloc (.cells #[.int .i64 0, .int .u32 0, .int .u32 0, .int .u64 0, .string ⟨#[]⟩, .string ⟨#[]⟩, .string ⟨#[]⟩, .string ⟨#[]⟩, .string ⟨#[]⟩, .string ⟨#[]⟩, .string ⟨#[]⟩, .string ⟨#[]⟩, .string ⟨#[]⟩] 29)) = w1 at *
  (iterate 4 go_step)
  first | refine wp_store_mid _ _ _ rfl (w.heap.size) 0 #[.int .i64 0, .int .u32 0, .int .u32 0, .int .u64 0, .string ⟨#[]⟩, .string ⟨#[]⟩, .string ⟨#[]⟩, .string ⟨#[]⟩, .string ⟨#[]⟩, .string ⟨#[]⟩, .string ⟨#[]⟩, .string ⟨#[]⟩, .string ⟨#[]⟩] rfl rfl (blk_there HZ.out _ rfl) (by kernel_rfl) (by simp [Value.oneCell']) ?_ | refine wpList_store_mid rfl _ _ _ rfl (w.heap.size) 0 #[.int .i64 0, .int .u32 0, .int .u32 0, .int .u64 0, .string ⟨#[]⟩, .string ⟨#[]⟩, .string ⟨#[]⟩, .string ⟨#[]⟩, .string ⟨#[]⟩, .string ⟨#[]⟩, .string ⟨#[]⟩, .string ⟨#[]⟩, .string ⟨#[]⟩] rfl rfl (blk_there HZ.out _ rfl) (by kernel_rfl) (by simp [Value.oneCell']) ?_
  replace HZ := hide (show Blk (w1.setCells (w.heap.size) 0 [.int .i64 0, .int .u32 0, .int .u32 0, .int .u64 0, .string ⟨#[]⟩, .string ⟨#[]⟩, .string ⟨#[]⟩, .string ⟨#[]⟩, .string ⟨#[]⟩, .string ⟨#[]⟩, .string ⟨#[]⟩, .string ⟨#[]⟩, .string ⟨#[]⟩]) _ _ #[.int .i64 0, .int .u32 0, .int .u32 0, .int .u64 0, .string ⟨#[]⟩, .string ⟨#[]⟩, .string ⟨#[]⟩, .string ⟨#[]⟩, .string ⟨#[]⟩, .string ⟨#[]⟩, .string ⟨#[]⟩, .string ⟨#[]⟩, .string ⟨#[]⟩] from blk_stored HZ.out [.int .i64 0, .int .u32 0, .int .u32 0, .int .u64 0, .string ⟨#[]⟩, .string ⟨#[]⟩, .string ⟨#[]⟩, .string ⟨#[]⟩, .string ⟨#[]⟩, .string ⟨#[]⟩, .string ⟨#[]⟩, .string ⟨#[]⟩, .string ⟨#[]⟩] rfl)
  replace HO := hide (show Only [] w (w1.setCells (w.heap.size) 0 [.int .i64 0, .int .u32 0, .int .u32 0, .int .u64 0, .string ⟨#[]⟩, .string ⟨#[]⟩, .string ⟨#[]⟩, .string ⟨#[]⟩, .string ⟨#[]⟩, .string ⟨#[]⟩, .string ⟨#[]⟩, .string ⟨#[]⟩, .string ⟨#[]⟩]) from Only.setCells (.inr (by omega)) 0 [.int .i64 0, .int .u32 0, .int .u32 0, .int .u64 0, .string ⟨#[]⟩, .string ⟨#[]⟩, .string ⟨#[]⟩, .string ⟨#[]⟩, .string ⟨#[]⟩, .string ⟨#[]⟩, .string ⟨#[]⟩, .string ⟨#[]⟩, .string ⟨#[]⟩] HO.out)
  dsimp only
  generalize (w1.setCells (w.heap.size) 0 [.int .i64 0, .int .u32 0, .int .u32 0, .int .u64 0, .string ⟨#[]⟩, .string ⟨#[]⟩, .string ⟨#[]⟩, .string ⟨#[]⟩, .string ⟨#[]⟩, .string ⟨#[]⟩, .string ⟨#[]⟩, .string ⟨#[]⟩, .string ⟨#[]⟩]) = w9 at *
  (repeat go_step)
  refine bodyPost_ret (results_cell_two rfl _ _ (w.heap.size) 29 _ (0, 0) _ rfl HZ.out Tryz.underlying29 rfl (by kernel_rfl)) rfl ?_
  exact ⟨rfl, HO.out⟩
set_option maxRecDepth 100000 in
set_option maxHeartbeats 12800000 in
theorem hear_nil (w : World) (t f : Int) (v : Value) : Calls Tryz.prog 10 #[.pointer none, .int .i64 t, .agg #[.int .u32 0, .string ⟨#[]⟩, .int .u64 0, .string ⟨#[]⟩, .string ⟨#[]⟩, .string ⟨#[]⟩], v, .int .i64 f] w fun e w' => e = .returned (.tuple #[.agg #[.int .i64 0, .int .u32 0, .int .u32 0, .int .u64 0, .string ⟨#[]⟩, .string ⟨#[]⟩, .string ⟨#[]⟩, .string ⟨#[]⟩, .string ⟨#[]⟩, .string ⟨#[]⟩, .string ⟨#[]⟩, .string ⟨#[]⟩, .string ⟨#[]⟩], .int .i64 1]) ∧ Only [] w w' := by
  have HO := hide (((Only.refl [] w).alloc (.cells #[.int .u32 0, .string ⟨#[]⟩, .int .u64 0, .string ⟨#[]⟩, .string ⟨#[]⟩, .string ⟨#[]⟩] 35)).alloc (.cells #[.int .i64 0, .int .u32 0, .int .u32 0, .int .u64 0, .string ⟨#[]⟩, .string ⟨#[]⟩, .string ⟨#[]⟩, .string ⟨#[]⟩, .string ⟨#[]⟩, .string ⟨#[]⟩, .string ⟨#[]⟩, .string ⟨#[]⟩, .string ⟨#[]⟩] 29))
  have HZ := hide (Blk.new (w.alloc (.cells #[.int .u32 0, .string ⟨#[]⟩, .int .u64 0, .string ⟨#[]⟩, .string ⟨#[]⟩, .string ⟨#[]⟩] 35)) 29 #[.int .i64 0, .int .u32 0, .int .u32 0, .int .u64 0, .string ⟨#[]⟩, .string ⟨#[]⟩, .string ⟨#[]⟩, .string ⟨#[]⟩, .string ⟨#[]⟩, .string ⟨#[]⟩, .string ⟨#[]⟩, .string ⟨#[]⟩, .string ⟨#[]⟩])
  rw [World.size_alloc] at HZ
  have zf := HZ.out.frozen
  go_enter Tryz.func10, Tryz.ntmps10
  go_upto_region 2 with fail
  generalize ((w.alloc (.cells #[.int .u32 0, .string ⟨#[]⟩, .int .u64 0, .string ⟨#[]⟩, .string ⟨#[]⟩, .string ⟨#[]⟩] 35)).alloc (.cells #[.int .i64 0, .int .u32 0, .int .u32 0, .int .u64 0, .string ⟨#[]⟩, .string ⟨#[]⟩, .string ⟨#[]⟩, .string ⟨#[]⟩, .string ⟨#[]⟩, .string ⟨#[]⟩, .string ⟨#[]⟩, .string ⟨#[]⟩, .string ⟨#[]⟩] 29)) = w1 at *
  (iterate 4 go_step)
  first | refine wp_store_mid _ _ _ rfl (w.heap.size + 1) 0 #[.int .i64 0, .int .u32 0, .int .u32 0, .int .u64 0, .string ⟨#[]⟩, .string ⟨#[]⟩, .string ⟨#[]⟩, .string ⟨#[]⟩, .string ⟨#[]⟩, .string ⟨#[]⟩, .string ⟨#[]⟩, .string ⟨#[]⟩, .string ⟨#[]⟩] rfl rfl (blk_there HZ.out _ rfl) (by kernel_rfl) (by simp [Value.oneCell']) ?_ | refine wpList_store_mid rfl _ _ _ rfl (w.heap.size + 1) 0 #[.int .i64 0, .int .u32 0, .int .u32 0, .int .u64 0, .string ⟨#[]⟩, .string ⟨#[]⟩, .string ⟨#[]⟩, .string ⟨#[]⟩, .string ⟨#[]⟩, .string ⟨#[]⟩, .string ⟨#[]⟩, .string ⟨#[]⟩, .string ⟨#[]⟩] rfl rfl (blk_there HZ.out _ rfl) (by kernel_rfl) (by simp [Value.oneCell']) ?_
  replace HZ := hide (show Blk (w1.setCells (w.heap.size + 1) 0 [.int .i64 0, .int .u32 0, .int .u32 0, .int .u64 0, .string ⟨#[]⟩, .string ⟨#[]⟩, .string ⟨#[]⟩, .string ⟨#[]⟩, .string ⟨#[]⟩, .string ⟨#[]⟩, .string ⟨#[]⟩, .string ⟨#[]⟩, .string ⟨#[]⟩]) _ _ #[.int .i64 0, .int .u32 0, .int .u32 0, .int .u64 0, .string ⟨#[]⟩, .string ⟨#[]⟩, .string ⟨#[]⟩, .string ⟨#[]⟩, .string ⟨#[]⟩, .string ⟨#[]⟩, .string ⟨#[]⟩, .string ⟨#[]⟩, .string ⟨#[]⟩] from blk_stored HZ.out [.int .i64 0, .int .u32 0, .int .u32 0, .int .u64 0, .string ⟨#[]⟩, .string ⟨#[]⟩, .string ⟨#[]⟩, .string ⟨#[]⟩, .string ⟨#[]⟩, .string ⟨#[]⟩, .string ⟨#[]⟩, .string ⟨#[]⟩, .string ⟨#[]⟩] rfl)
  replace HO := hide (show Only [] w (w1.setCells (w.heap.size + 1) 0 [.int .i64 0, .int .u32 0, .int .u32 0, .int .u64 0, .string ⟨#[]⟩, .string ⟨#[]⟩, .string ⟨#[]⟩, .string ⟨#[]⟩, .string ⟨#[]⟩, .string ⟨#[]⟩, .string ⟨#[]⟩, .string ⟨#[]⟩, .string ⟨#[]⟩]) from Only.setCells (.inr (by omega)) 0 [.int .i64 0, .int .u32 0, .int .u32 0, .int .u64 0, .string ⟨#[]⟩, .string ⟨#[]⟩, .string ⟨#[]⟩, .string ⟨#[]⟩, .string ⟨#[]⟩, .string ⟨#[]⟩, .string ⟨#[]⟩, .string ⟨#[]⟩, .string ⟨#[]⟩] HO.out)
  dsimp only
  generalize (w1.setCells (w.heap.size + 1) 0 [.int .i64 0, .int .u32 0, .int .u32 0, .int .u64 0, .string ⟨#[]⟩, .string ⟨#[]⟩, .string ⟨#[]⟩, .string ⟨#[]⟩, .string ⟨#[]⟩, .string ⟨#[]⟩, .string ⟨#[]⟩, .string ⟨#[]⟩, .string ⟨#[]⟩]) = w9 at *
  (repeat go_step)
  refine bodyPost_ret (results_cell_two rfl _ _ (w.heap.size + 1) 29 _ (0, 0) _ rfl HZ.out Tryz.underlying29 rfl (by kernel_rfl)) rfl ?_
  exact ⟨rfl, HO.out⟩
set_option maxRecDepth 100000 in
set_option maxHeartbeats 12800000 in
theorem hear_nosrc (w : World) (g : Nat) (t f : Int) : Calls Tryz.prog 10 #[.pointer (some ⟨g, 0, none⟩), .int .i64 t, .agg #[.int .u32 0, .string ⟨#[]⟩, .int .u64 0, .string ⟨#[]⟩, .string ⟨#[]⟩, .string ⟨#[]⟩], .pointer none, .int .i64 f] w fun e w' => e = .returned (.tuple #[.agg #[.int .i64 0, .int .u32 0, .int .u32 0, .int .u64 0, .string ⟨#[]⟩, .string ⟨#[]⟩, .string ⟨#[]⟩, .string ⟨#[]⟩, .string ⟨#[]⟩, .string ⟨#[]⟩, .string ⟨#[]⟩, .string ⟨#[]⟩, .string ⟨#[]⟩], .int .i64 1]) ∧ Only [] w w' := by
  have HO := hide (((Only.refl [] w).alloc (.cells #[.int .u32 0, .string ⟨#[]⟩, .int .u64 0, .string ⟨#[]⟩, .string ⟨#[]⟩, .string ⟨#[]⟩] 35)).alloc (.cells #[.int .i64 0, .int .u32 0, .int .u32 0, .int .u64 0, .string ⟨#[]⟩, .string ⟨#[]⟩, .string ⟨#[]⟩, .string ⟨#[]⟩, .string ⟨#[]⟩, .string ⟨#[]⟩, .string ⟨#[]⟩, .string ⟨#[]⟩, .string ⟨#[]⟩] 29))
  have HZ := hide (Blk.new (w.alloc (.cells #[.int .u32 0, .string ⟨#[]⟩, .int .u64 0, .string ⟨#[]⟩, .string ⟨#[]⟩, .string ⟨#[]⟩] 35)) 29 #[.int .i64 0, .int .u32 0, .int .u32 0, .int .u64 0, .string ⟨#[]⟩, .string ⟨#[]⟩, .string ⟨#[]⟩, .string ⟨#[]⟩, .string ⟨#[]⟩, .string ⟨#[]⟩, .string ⟨#[]⟩, .string ⟨#[]⟩, .string ⟨#[]⟩])
  rw [World.size_alloc] at HZ
  have zf := HZ.out.frozen
  go_enter Tryz.func10, Tryz.ntmps10
  go_upto_region 2 with fail
  generalize ((w.alloc (.cells #[.int .u32 0, .string ⟨#[]⟩, .int .u64 0, .string ⟨#[]⟩, .string ⟨#[]⟩, .string ⟨#[]⟩] 35)).alloc (.cells #[.int .i64 0, .int .u32 0, .int .u32 0, .int .u64 0, .string ⟨#[]⟩, .string ⟨#[]⟩, .string ⟨#[]⟩, .string ⟨#[]⟩, .string ⟨#[]⟩, .string ⟨#[]⟩, .string ⟨#[]⟩, .string ⟨#[]⟩, .string ⟨#[]⟩] 29)) = w1 at *
  (iterate 4 go_step)
  first | refine wp_store_mid _ _ _ rfl (w.heap.size + 1) 0 #[.int .i64 0, .int .u32 0, .int .u32 0, .int .u64 0, .string ⟨#[]⟩, .string ⟨#[]⟩, .string ⟨#[]⟩, .string ⟨#[]⟩, .string ⟨#[]⟩, .string ⟨#[]⟩, .string ⟨#[]⟩, .string ⟨#[]⟩, .string ⟨#[]⟩] rfl rfl (blk_there HZ.out _ rfl) (by kernel_rfl) (by simp [Value.oneCell']) ?_ | refine wpList_store_mid rfl _ _ _ rfl (w.heap.size + 1) 0 #[.int .i64 0, .int .u32 0, .int .u32 0, .int .u64 0, .string ⟨#[]⟩, .string ⟨#[]⟩, .string ⟨#[]⟩, .string ⟨#[]⟩, .string ⟨#[]⟩, .string ⟨#[]⟩, .string ⟨#[]⟩, .string ⟨#[]⟩, .string ⟨#[]⟩] rfl rfl (blk_there HZ.out _ rfl) (by kernel_rfl) (by simp [Value.oneCell']) ?_
  replace HZ := hide (show Blk (w1.setCells (w.heap.size + 1) 0 [.int .i64 0, .int .u32 0, .int .u32 0, .int .u64 0, .string ⟨#[]⟩, .string ⟨#[]⟩, .string ⟨#[]⟩, .string ⟨#[]⟩, .string ⟨#[]⟩, .string ⟨#[]⟩, .string ⟨#[]⟩, .string ⟨#[]⟩, .string ⟨#[]⟩]) _ _ #[.int .i64 0, .int .u32 0, .int .u32 0, .int .u64 0, .string ⟨#[]⟩, .string ⟨#[]⟩, .string ⟨#[]⟩, .string ⟨#[]⟩, .string ⟨#[]⟩, .string ⟨#[]⟩, .string ⟨#[]⟩, .string ⟨#[]⟩, .string ⟨#[]⟩] from blk_stored HZ.out [.int .i64 0, .int .u32 0, .int .u32 0, .int .u64 0, .string ⟨#[]⟩, .string ⟨#[]⟩, .string ⟨#[]⟩, .string ⟨#[]⟩, .string ⟨#[]⟩, .string ⟨#[]⟩, .string ⟨#[]⟩, .string ⟨#[]⟩, .string ⟨#[]⟩] rfl)
  replace HO := hide (show Only [] w (w1.setCells (w.heap.size + 1) 0 [.int .i64 0, .int .u32 0, .int .u32 0, .int .u64 0, .string ⟨#[]⟩, .string ⟨#[]⟩, .string ⟨#[]⟩, .string ⟨#[]⟩, .string ⟨#[]⟩, .string ⟨#[]⟩, .string ⟨#[]⟩, .string ⟨#[]⟩, .string ⟨#[]⟩]) from Only.setCells (.inr (by omega)) 0 [.int .i64 0, .int .u32 0, .int .u32 0, .int .u64 0, .string ⟨#[]⟩, .string ⟨#[]⟩, .string ⟨#[]⟩, .string ⟨#[]⟩, .string ⟨#[]⟩, .string ⟨#[]⟩, .string ⟨#[]⟩, .string ⟨#[]⟩, .string ⟨#[]⟩] HO.out)
  dsimp only
  generalize (w1.setCells (w.heap.size + 1) 0 [.int .i64 0, .int .u32 0, .int .u32 0, .int .u64 0, .string ⟨#[]⟩, .string ⟨#[]⟩, .string ⟨#[]⟩, .string ⟨#[]⟩, .string ⟨#[]⟩, .string ⟨#[]⟩, .string ⟨#[]⟩, .string ⟨#[]⟩, .string ⟨#[]⟩]) = w9 at *
  (repeat go_step)
  refine bodyPost_ret (results_cell_two rfl _ _ (w.heap.size + 1) 29 _ (0, 0) _ rfl HZ.out Tryz.underlying29 rfl (by kernel_rfl)) rfl ?_
  exact ⟨rfl, HO.out⟩
set_option maxRecDepth 100000 in
set_option maxHeartbeats 12800000 in
theorem seal_nil (w : World) (t : Int) (v : Value) : Calls Tryz.prog 11 #[.pointer none, .int .i64 t, v] w fun e w' => e = .returned (.tuple #[.agg #[.int .i64 0, .int .u32 0, .int .u32 0, .int .u64 0, .string ⟨#[]⟩, .string ⟨#[]⟩, .string ⟨#[]⟩, .string ⟨#[]⟩, .string ⟨#[]⟩, .string ⟨#[]⟩, .string ⟨#[]⟩, .string ⟨#[]⟩, .string ⟨#[]⟩], .int .i64 1]) ∧ Only [] w w' := by
  have HO := hide ((Only.refl [] w).alloc (.cells #[.int .i64 0, .int .u32 0, .int .u32 0, .int .u64 0, .string ⟨#[]⟩, .string ⟨#[]⟩, .string ⟨#[]⟩, .string ⟨#[]⟩, .string ⟨#[]⟩, .string ⟨#[]⟩, .string ⟨#[]⟩, .string ⟨#[]⟩, .string ⟨#[]⟩] 29))
  have HZ := hide (Blk.new w 29 #[.int .i64 0, .int .u32 0, .int .u32 0, .int .u64 0, .string ⟨#[]⟩, .string ⟨#[]⟩, .string ⟨#[]⟩, .string ⟨#[]⟩, .string ⟨#[]⟩, .string ⟨#[]⟩, .string ⟨#[]⟩, .string ⟨#[]⟩, .string ⟨#[]⟩])
  have zf := HZ.out.frozen
  go_enter Tryz.func11, Tryz.ntmps11
  go_upto_region 2 with fail
  generalize (w.alloc (.cells #[.int .i64 0, .int .u32 0, .int .u32 0, .int .u64 0, .string ⟨#[]⟩, .string ⟨#[]⟩, .string ⟨#[]⟩, .string ⟨#[]⟩, .string ⟨#[]⟩, .string ⟨#[]⟩, .string ⟨#[]⟩, .string ⟨#[]⟩, .string ⟨#[]⟩] 29)) = w1 at *
  (iterate 4 go_step)
  first | refine wp_store_mid _ _ _ rfl (w.heap.size) 0 #[.int .i64 0, .int .u32 0, .int .u32 0, .int .u64 0, .string ⟨#[]⟩, .string ⟨#[]⟩, .string ⟨#[]⟩, .string ⟨#[]⟩, .string ⟨#[]⟩, .string ⟨#[]⟩, .string ⟨#[]⟩, .string ⟨#[]⟩, .string ⟨#[]⟩] rfl rfl (blk_there HZ.out _ rfl) (by kernel_rfl) (by simp [Value.oneCell']) ?_ | refine wpList_store_mid rfl _ _ _ rfl (w.heap.size) 0 #[.int .i64 0, .int .u32 0, .int .u32 0, .int .u64 0, .string ⟨#[]⟩, .string ⟨#[]⟩, .string ⟨#[]⟩, .string ⟨#[]⟩, .string ⟨#[]⟩, .string ⟨#[]⟩, .string ⟨#[]⟩, .string ⟨#[]⟩, .string ⟨#[]⟩] rfl rfl (blk_there HZ.out _ rfl) (by kernel_rfl) (by simp [Value.oneCell']) ?_
  replace HZ := hide (show Blk (w1.setCells (w.heap.size) 0 [.int .i64 0, .int .u32 0, .int .u32 0, .int .u64 0, .string ⟨#[]⟩, .string ⟨#[]⟩, .string ⟨#[]⟩, .string ⟨#[]⟩, .string ⟨#[]⟩, .string ⟨#[]⟩, .string ⟨#[]⟩, .string ⟨#[]⟩, .string ⟨#[]⟩]) _ _ #[.int .i64 0, .int .u32 0, .int .u32 0, .int .u64 0, .string ⟨#[]⟩, .string ⟨#[]⟩, .string ⟨#[]⟩, .string ⟨#[]⟩, .string ⟨#[]⟩, .string ⟨#[]⟩, .string ⟨#[]⟩, .string ⟨#[]⟩, .string ⟨#[]⟩] from blk_stored HZ.out [.int .i64 0, .int .u32 0, .int .u32 0, .int .u64 0, .string ⟨#[]⟩, .string ⟨#[]⟩, .string ⟨#[]⟩, .string ⟨#[]⟩, .string ⟨#[]⟩, .string ⟨#[]⟩, .string ⟨#[]⟩, .string ⟨#[]⟩, .string ⟨#[]⟩] rfl)
  replace HO := hide (show Only [] w (w1.setCells (w.heap.size) 0 [.int .i64 0, .int .u32 0, .int .u32 0, .int .u64 0, .string ⟨#[]⟩, .string ⟨#[]⟩, .string ⟨#[]⟩, .string ⟨#[]⟩, .string ⟨#[]⟩, .string ⟨#[]⟩, .string ⟨#[]⟩, .string ⟨#[]⟩, .string ⟨#[]⟩]) from Only.setCells (.inr (by omega)) 0 [.int .i64 0, .int .u32 0, .int .u32 0, .int .u64 0, .string ⟨#[]⟩, .string ⟨#[]⟩, .string ⟨#[]⟩, .string ⟨#[]⟩, .string ⟨#[]⟩, .string ⟨#[]⟩, .string ⟨#[]⟩, .string ⟨#[]⟩, .string ⟨#[]⟩] HO.out)
  dsimp only
  generalize (w1.setCells (w.heap.size) 0 [.int .i64 0, .int .u32 0, .int .u32 0, .int .u64 0, .string ⟨#[]⟩, .string ⟨#[]⟩, .string ⟨#[]⟩, .string ⟨#[]⟩, .string ⟨#[]⟩, .string ⟨#[]⟩, .string ⟨#[]⟩, .string ⟨#[]⟩, .string ⟨#[]⟩]) = w9 at *
  (repeat go_step)
  refine bodyPost_ret (results_cell_two rfl _ _ (w.heap.size) 29 _ (0, 0) _ rfl HZ.out Tryz.underlying29 rfl (by kernel_rfl)) rfl ?_
  exact ⟨rfl, HO.out⟩
set_option maxRecDepth 100000 in
set_option maxHeartbeats 12800000 in
theorem open_nil (w : World) (t f : Int) : Calls Tryz.prog 12 #[.pointer none, .int .i64 t, .agg #[.int .i64 0, .int .u32 0, .int .u32 0, .int .u64 0, .string ⟨#[]⟩, .string ⟨#[]⟩, .string ⟨#[]⟩, .string ⟨#[]⟩, .string ⟨#[]⟩, .string ⟨#[]⟩, .string ⟨#[]⟩, .string ⟨#[]⟩, .string ⟨#[]⟩], .int .i64 f] w fun e w' => e = .returned (.tuple #[.slice none 0 0, .bool false, .int .i64 1]) ∧ Only [] w w' := by
  have HO := hide ((Only.refl [] w).alloc (.cells #[.int .i64 0, .int .u32 0, .int .u32 0, .int .u64 0, .string ⟨#[]⟩, .string ⟨#[]⟩, .string ⟨#[]⟩, .string ⟨#[]⟩, .string ⟨#[]⟩, .string ⟨#[]⟩, .string ⟨#[]⟩, .string ⟨#[]⟩, .string ⟨#[]⟩] 29))
  go_enter Tryz.func12, Tryz.ntmps12
  go_wp2_with fail
  refine bodyPost_ret (results_tmp3 (by rfl) _ _ _) (by rfl) ?_
  exact ⟨rfl, HO.out⟩
set_option maxRecDepth 100000 in
set_option maxHeartbeats 12800000 in
theorem ptake_nil (w : World) : Calls Tryz.prog 13 #[.pointer none] w fun e w' => e = .returned (.tuple #[.slice none 0 0, .bool false]) ∧ Only [] w w' := by
  have HO := hide (Only.refl [] w)
  go_enter Tryz.func13, Tryz.ntmps13
  go_wp2_with fail
  go_ret2
  exact ⟨rfl, HO.out⟩
set_option maxRecDepth 100000 in
set_option maxHeartbeats 12800000 in
theorem finish_nil (w : World) (t f : Int) (s : ByteArray) : Calls Tryz.prog 15 #[.pointer none, .int .i64 t, .string s, .agg #[.int .i64 0, .int .u32 0, .int .u32 0, .int .u64 0, .string ⟨#[]⟩, .string ⟨#[]⟩, .string ⟨#[]⟩, .string ⟨#[]⟩, .string ⟨#[]⟩, .string ⟨#[]⟩, .string ⟨#[]⟩, .string ⟨#[]⟩, .string ⟨#[]⟩], .int .i64 f] w fun e w' => e = .returned (.int .i64 1) ∧ Only [] w w' := by
  have HO := hide ((Only.refl [] w).alloc (.cells #[.int .i64 0, .int .u32 0, .int .u32 0, .int .u64 0, .string ⟨#[]⟩, .string ⟨#[]⟩, .string ⟨#[]⟩, .string ⟨#[]⟩, .string ⟨#[]⟩, .string ⟨#[]⟩, .string ⟨#[]⟩, .string ⟨#[]⟩, .string ⟨#[]⟩] 29))
  go_enter Tryz.func15, Tryz.ntmps15
  go_wp2_with fail
  go_ret
  exact ⟨rfl, HO.out⟩
set_option maxRecDepth 100000 in
set_option maxHeartbeats 12800000 in
theorem refused_nil (w : World) (t : Int) : Calls Tryz.prog 16 #[.pointer none, .int .i64 t, .agg #[.int .i64 0, .int .u32 0, .int .u32 0, .int .u64 0, .string ⟨#[]⟩, .string ⟨#[]⟩, .string ⟨#[]⟩, .string ⟨#[]⟩, .string ⟨#[]⟩, .string ⟨#[]⟩, .string ⟨#[]⟩, .string ⟨#[]⟩, .string ⟨#[]⟩]] w fun e w' => e = .returned (.int .i64 1) ∧ Only [] w w' := by
  have HO := hide ((Only.refl [] w).alloc (.cells #[.int .i64 0, .int .u32 0, .int .u32 0, .int .u64 0, .string ⟨#[]⟩, .string ⟨#[]⟩, .string ⟨#[]⟩, .string ⟨#[]⟩, .string ⟨#[]⟩, .string ⟨#[]⟩, .string ⟨#[]⟩, .string ⟨#[]⟩, .string ⟨#[]⟩] 29))
  go_enter Tryz.func16, Tryz.ntmps16
  go_wp2_with fail
  go_ret
  exact ⟨rfl, HO.out⟩
set_option maxRecDepth 100000 in
set_option maxHeartbeats 12800000 in
theorem stage_nil (w : World) (v : Value) : Calls Tryz.prog 17 #[.pointer none, v] w fun e w' => e = .returned (.bool false) ∧ Only [] w w' := by
  have HO := hide (Only.refl [] w)
  go_enter Tryz.func17, Tryz.ntmps17
  go_wp2_with fail
  go_ret
  exact ⟨rfl, HO.out⟩
set_option maxRecDepth 100000 in
set_option maxHeartbeats 12800000 in
theorem staged_nil (w : World) : Calls Tryz.prog 18 #[.pointer none] w fun e w' => e = .returned (.int .i64 0) ∧ Only [] w w' := by
  have HO := hide (Only.refl [] w)
  go_enter Tryz.func18, Tryz.ntmps18
  go_wp2_with fail
  go_ret
  exact ⟨rfl, HO.out⟩
set_option maxRecDepth 100000 in
set_option maxHeartbeats 12800000 in
theorem due_nil (w : World) (t : Int) : Calls Tryz.prog 19 #[.pointer none, .int .i64 t] w fun e w' => e = .returned (.slice none 0 0) ∧ Only [] w w' := by
  have HO := hide (Only.refl [] w)
  go_enter Tryz.func19, Tryz.ntmps19
  go_wp2_with fail
  go_ret
  exact ⟨rfl, HO.out⟩
set_option maxRecDepth 100000 in
set_option maxHeartbeats 12800000 in
theorem perase_nil (w : World) : Calls Tryz.prog 20 #[.pointer none] w fun e w' => e = .returned (.int .i64 0) ∧ Only [] w w' := by
  have HO := hide (Only.refl [] w)
  go_enter Tryz.func20, Tryz.ntmps20
  go_wp2_with fail
  go_ret
  exact ⟨rfl, HO.out⟩
set_option maxRecDepth 100000 in
set_option maxHeartbeats 12800000 in
theorem giveup_nil (w : World) : Calls Tryz.prog 21 #[.pointer none] w fun e w' => e = .returned (.int .i64 0) ∧ Only [] w w' := by
  have HO := hide (Only.refl [] w)
  go_enter Tryz.func21, Tryz.ntmps21
  go_wp2_with fail
  go_ret
  exact ⟨rfl, HO.out⟩
set_option maxRecDepth 100000 in
set_option maxHeartbeats 12800000 in
theorem knows_nil (w : World) (k : Int) : Calls Tryz.prog 22 #[.pointer none, .int .u32 k] w fun e w' => e = .returned (.int .i64 0) ∧ Only [] w w' := by
  have HO := hide (Only.refl [] w)
  go_enter Tryz.func22, Tryz.ntmps22
  go_wp2_with fail
  go_ret
  exact ⟨rfl, HO.out⟩
set_option maxRecDepth 100000 in
set_option maxHeartbeats 12800000 in
theorem tired_nil (w : World) (t a : Int) : Calls Tryz.prog 23 #[.pointer none, .int .i64 t, .int .i64 a] w fun e w' => e = .returned (.bool false) ∧ Only [] w w' := by
  have HO := hide (Only.refl [] w)
  go_enter Tryz.func23, Tryz.ntmps23
  go_wp2_with fail
  go_ret
  exact ⟨rfl, HO.out⟩
set_option maxRecDepth 100000 in
set_option maxHeartbeats 12800000 in
theorem pfresh_nil (w : World) (t : Int) : Calls Tryz.prog 24 #[.pointer none, .int .i64 t] w fun e w' => e = .returned (.bool false) ∧ Only [] w w' := by
  have HO := hide (Only.refl [] w)
  go_enter Tryz.func24, Tryz.ntmps24
  go_wp2_with fail
  go_ret
  exact ⟨rfl, HO.out⟩
set_option maxRecDepth 100000 in
set_option maxHeartbeats 12800000 in
theorem public_nil (w : World) : Calls Tryz.prog 25 #[.pointer none] w fun e w' => e = .returned (.string ⟨#[]⟩) ∧ Only [] w w' := by
  have HO := hide (Only.refl [] w)
  go_enter Tryz.func25, Tryz.ntmps25
  go_wp2_with fail
  go_ret
  exact ⟨rfl, HO.out⟩
set_option maxRecDepth 100000 in
set_option maxHeartbeats 12800000 in
theorem endpoint_nil (w : World) : Calls Tryz.prog 26 #[.pointer none] w fun e w' => e = .returned (.int .i64 0) ∧ Only [] w w' := by
  have HO := hide (Only.refl [] w)
  go_enter Tryz.func26, Tryz.ntmps26
  go_wp2_with fail
  go_ret
  exact ⟨rfl, HO.out⟩
set_option maxRecDepth 100000 in
set_option maxHeartbeats 12800000 in
theorem made_nil (w : World) : Calls Tryz.prog 27 #[.pointer none] w fun e w' => e = .returned (.slice none 0 0) ∧ Only [] w w' := by
  have HO := hide (Only.refl [] w)
  go_enter Tryz.func27, Tryz.ntmps27
  go_wp2_with fail
  go_ret
  exact ⟨rfl, HO.out⟩
end
end Go.Proofs.YtcokjoidpnfjhaaGreatDoor

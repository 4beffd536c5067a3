/-
  wire.row: the fields of a kind, by walking. No condition.
-/
import Derived.Test.YtfmfnfmhknlpbaaWaQ
import Derived.Deep.RegionHeld3
namespace Go.Proofs.Ytfmfnfmhknlpbaa
open Go.RowKit Go.Deep

def txtC (f : FuncId) : List Value := [.int .i64 0, .nilFunc, .nilFunc, fnV f]
def cntC : List Value := [.int .i64 8, fnV 57, fnV 58, .nilFunc]
def row1C (b1 b2 : Nat) : List Value := numC b1 ++ txtC 49 ++ txtC 52 ++ txtC 53 ++ txtC 50 ++ txtC 51
def row2C (b1 b2 : Nat) : List Value := numC b1 ++ numC b2 ++ txtC 49 ++ txtC 54 ++ txtC 50 ++ txtC 51
def row3C (b1 b2 : Nat) : List Value := numC b2 ++ txtC 55 ++ txtC 56
def row4C (b1 b2 : Nat) : List Value := numC b2 ++ cntC ++ txtC 59
theorem blk_new' {w : World} {g : Nat} {t : TypeId} {cs : Array Value} (h : g = w.heap.size) : Blk (w.alloc (.cells cs t)) g t cs := h ▸ Blk.new w t cs
/-- What row hands back: a row of fields in a block of its own; the two closures' places. -/
def RowPost (n : Nat) (C : Nat → Nat → List Value) (w : World) (e : Ending) (w' : World) : Prop :=
  ∃ g b1 b2, e = .returned (.slice (some ⟨g, 0, none⟩) n n) ∧ w.heap.size ≤ g ∧ w.heap.size ≤ b1 ∧ w.heap.size ≤ b2 ∧ Blk w' g 63 (C b1 b2).toArray ∧
    Blk w' b1 91 #[fnV 47] ∧ Blk w' b2 91 #[fnV 48] ∧ Only [] w w'
theorem rowpost {n : Nat} {C : Nat → Nat → List Value} {w w' : World} {g b1 b2 : Nat} (h1 : w.heap.size ≤ g) (h2 : w.heap.size ≤ b1) (h3 : w.heap.size ≤ b2) (h4 : Blk w' g 63 (C b1 b2).toArray)
    (h5 : Blk w' b1 91 #[fnV 47]) (h6 : Blk w' b2 91 #[fnV 48]) (h7 : Only [] w w') : RowPost n C w (.returned (.slice (some ⟨g, 0, none⟩) n n)) w' :=
  ⟨g, b1, b2, rfl, h1, h2, h3, h4, h5, h6, h7⟩

set_option maxRecDepth 100000 in
set_option maxHeartbeats 3200000 in
theorem row_1 (w : World) : Calls Try.prog 28 #[.int .i64 1] w (RowPost 6 row1C w) := by
  have hst := fun (W : World) (a : Addr) (fn : Fn) (c : Array Value) => (run_store Try.prog W a (.func fn #[] c) .plain rfl : (store a (.func fn #[] c)).run Try.prog W = stored Try.prog W a (.func fn #[] c) .plain)
  have hsn := fun (W : World) (a : Addr) => (run_store Try.prog W a .nilFunc .plain rfl : (store a .nilFunc).run Try.prog W = stored Try.prog W a .nilFunc .plain)
  go_enter Try.func28, Try.ntmps28
  go_upto_region 10 with (go_at_call 46; refine (wnumber_any _ _).mono ?_; (first
    | (rintro e w1 ⟨rfl, hb1, hs1, ho1⟩; have HS0 : Hid (Blk w1 w.heap.size _ #[fnV 47]) := hide hb1; have HZ := hide hs1; have HF := hide (Blk.new w1 63 (numC w.heap.size).toArray); have HS := hide (HS0.out.alloc (.cells (numC w.heap.size).toArray 63)); have HO := hide (ho1.alloc (.cells (numC w.heap.size).toArray 63)); clear hb1 hs1 ho1)
    | (rintro e w2 ⟨rfl, hb1, hs1, ho1⟩; rw [World.size_alloc] at hb1 hs1; have HR : Hid (Blk w2 (w1.heap.size + 1) _ #[fnV 48]) := hide hb1; have HZ2 := hide hs1; have HS := hide (HS.out.only ho1 (by simp)); have HF := hide (HF.out.only ho1 (by simp)); have HO := hide (HO.out.trans ho1); clear hb1 hs1 ho1)))
  generalize hW : ((((((w2.alloc (.cells #[.int .i64 4, .func (.func 70) #[] #[.pointer (some ⟨w1.heap.size + 1, 0, none⟩)], .func (.func 71) #[] #[.pointer (some ⟨w1.heap.size + 1, 0, none⟩)], .nilFunc] 63)).alloc (.cells #[.int .i64 0, .nilFunc, .nilFunc, .func (.func 49) #[] #[]] 63)).alloc (.cells #[.int .i64 0, .nilFunc, .nilFunc, .func (.func 50) #[] #[]] 63)).alloc (.cells #[.int .i64 0, .nilFunc, .nilFunc, .func (.func 51) #[] #[]] 63)).alloc (.cells #[.int .i64 0, .nilFunc, .nilFunc, .func (.func 52) #[] #[]] 63)).alloc (.cells #[.int .i64 0, .nilFunc, .nilFunc, .func (.func 53) #[] #[]] 63)) = wq at *
  have HW := hide hW
  clear hW
  have HS := hide (show Blk wq w.heap.size _ #[fnV 47] from by rw [← HW.out]; repeat (first | exact HS.out | apply Blk.alloc))
  have HR := hide (show Blk wq (w1.heap.size + 1) _ #[fnV 48] from by rw [← HW.out]; repeat (first | exact HR.out | apply Blk.alloc))
  have HO := hide (show Only [] w wq from by rw [← HW.out]; repeat (first | exact HO.out | apply Only.alloc))
  have HF := hide (show Blk wq w1.heap.size 63 (numC w.heap.size).toArray from by rw [← HW.out]; repeat (first | exact HF.out | apply Blk.alloc))
  have s0 := HF.out.cell 0; have s1 := HF.out.cell 1; have s2 := HF.out.cell 2; have s3 := HF.out.cell 3
  simp [numC] at s0 s1 s2 s3
  have hb : Blk wq (w2.heap.size + 1) 63 #[.int .i64 0, .nilFunc, .nilFunc, .func (.func 49) #[] #[]] := by rw [← HW.out]; repeat (first | exact blk_new' (by simp) | apply Blk.alloc)
  have t10 := hb.cell 0; have t11 := hb.cell 1; have t12 := hb.cell 2; have t13 := hb.cell 3
  clear hb
  simp at t10 t11 t12 t13
  have hb : Blk wq (w2.heap.size + 1 + 1) 63 #[.int .i64 0, .nilFunc, .nilFunc, .func (.func 50) #[] #[]] := by rw [← HW.out]; repeat (first | exact blk_new' (by simp) | apply Blk.alloc)
  have t20 := hb.cell 0; have t21 := hb.cell 1; have t22 := hb.cell 2; have t23 := hb.cell 3
  clear hb
  simp at t20 t21 t22 t23
  have hb : Blk wq (w2.heap.size + 1 + 1 + 1) 63 #[.int .i64 0, .nilFunc, .nilFunc, .func (.func 51) #[] #[]] := by rw [← HW.out]; repeat (first | exact blk_new' (by simp) | apply Blk.alloc)
  have t30 := hb.cell 0; have t31 := hb.cell 1; have t32 := hb.cell 2; have t33 := hb.cell 3
  clear hb
  simp at t30 t31 t32 t33
  have hb : Blk wq (w2.heap.size + 1 + 1 + 1 + 1) 63 #[.int .i64 0, .nilFunc, .nilFunc, .func (.func 52) #[] #[]] := by rw [← HW.out]; repeat (first | exact blk_new' (by simp) | apply Blk.alloc)
  have t40 := hb.cell 0; have t41 := hb.cell 1; have t42 := hb.cell 2; have t43 := hb.cell 3
  clear hb
  simp at t40 t41 t42 t43
  have hb : Blk wq (w2.heap.size + 1 + 1 + 1 + 1 + 1) 63 #[.int .i64 0, .nilFunc, .nilFunc, .func (.func 53) #[] #[]] := by rw [← HW.out]; repeat (first | exact blk_new' (by simp) | apply Blk.alloc)
  have t50 := hb.cell 0; have t51 := hb.cell 1; have t52 := hb.cell 2; have t53 := hb.cell 3
  clear hb
  simp at t50 t51 t52 t53
  clear HW hst hsn
  go_wp2_with fail
  go_ret
  exact rowpost (b1 := w.heap.size) (b2 := w1.heap.size + 1) (by have := HO.out.size; omega) (Nat.le_refl _) (by have := HZ.out; omega) (blk_new' (by simp)) (HS.out.alloc _) (HR.out.alloc _) (HO.out.alloc _)

set_option maxRecDepth 100000 in
set_option maxHeartbeats 3200000 in
theorem row_2 (w : World) : Calls Try.prog 28 #[.int .i64 2] w (RowPost 6 row2C w) := by
  have hst := fun (W : World) (a : Addr) (fn : Fn) (c : Array Value) => (run_store Try.prog W a (.func fn #[] c) .plain rfl : (store a (.func fn #[] c)).run Try.prog W = stored Try.prog W a (.func fn #[] c) .plain)
  have hsn := fun (W : World) (a : Addr) => (run_store Try.prog W a .nilFunc .plain rfl : (store a .nilFunc).run Try.prog W = stored Try.prog W a .nilFunc .plain)
  go_enter Try.func28, Try.ntmps28
  go_upto_region 13 with (go_at_call 46; refine (wnumber_any _ _).mono ?_; (first
    | (rintro e w1 ⟨rfl, hb1, hs1, ho1⟩; have HS0 : Hid (Blk w1 w.heap.size _ #[fnV 47]) := hide hb1; have HZ := hide hs1; have HF := hide (Blk.new w1 63 (numC w.heap.size).toArray); have HS := hide (HS0.out.alloc (.cells (numC w.heap.size).toArray 63)); have HO := hide (ho1.alloc (.cells (numC w.heap.size).toArray 63)); clear hb1 hs1 ho1)
    | (rintro e w2 ⟨rfl, hb1, hs1, ho1⟩; rw [World.size_alloc] at hb1 hs1; have HR : Hid (Blk w2 (w1.heap.size + 1) _ #[fnV 48]) := hide hb1; have HZ2 := hide hs1; have HS := hide (HS.out.only ho1 (by simp)); have HF := hide (HF.out.only ho1 (by simp)); have HO := hide (HO.out.trans ho1); clear hb1 hs1 ho1)))
  generalize hW : (((((w2.alloc (.cells #[.int .i64 4, .func (.func 70) #[] #[.pointer (some ⟨w1.heap.size + 1, 0, none⟩)], .func (.func 71) #[] #[.pointer (some ⟨w1.heap.size + 1, 0, none⟩)], .nilFunc] 63)).alloc (.cells #[.int .i64 0, .nilFunc, .nilFunc, .func (.func 49) #[] #[]] 63)).alloc (.cells #[.int .i64 0, .nilFunc, .nilFunc, .func (.func 50) #[] #[]] 63)).alloc (.cells #[.int .i64 0, .nilFunc, .nilFunc, .func (.func 51) #[] #[]] 63)).alloc (.cells #[.int .i64 0, .nilFunc, .nilFunc, .func (.func 54) #[] #[]] 63)) = wq at *
  have HW := hide hW
  clear hW
  have HS := hide (show Blk wq w.heap.size _ #[fnV 47] from by rw [← HW.out]; repeat (first | exact HS.out | apply Blk.alloc))
  have HR := hide (show Blk wq (w1.heap.size + 1) _ #[fnV 48] from by rw [← HW.out]; repeat (first | exact HR.out | apply Blk.alloc))
  have HO := hide (show Only [] w wq from by rw [← HW.out]; repeat (first | exact HO.out | apply Only.alloc))
  have HF := hide (show Blk wq w1.heap.size 63 (numC w.heap.size).toArray from by rw [← HW.out]; repeat (first | exact HF.out | apply Blk.alloc))
  have s0 := HF.out.cell 0; have s1 := HF.out.cell 1; have s2 := HF.out.cell 2; have s3 := HF.out.cell 3
  simp [numC] at s0 s1 s2 s3
  have hb : Blk wq (w2.heap.size) 63 #[.int .i64 4, .func (.func 70) #[] #[.pointer (some ⟨w1.heap.size + 1, 0, none⟩)], .func (.func 71) #[] #[.pointer (some ⟨w1.heap.size + 1, 0, none⟩)], .nilFunc] := by rw [← HW.out]; repeat (first | exact blk_new' (by simp) | apply Blk.alloc)
  have t00 := hb.cell 0; have t01 := hb.cell 1; have t02 := hb.cell 2; have t03 := hb.cell 3
  clear hb
  simp at t00 t01 t02 t03
  have hb : Blk wq (w2.heap.size + 1) 63 #[.int .i64 0, .nilFunc, .nilFunc, .func (.func 49) #[] #[]] := by rw [← HW.out]; repeat (first | exact blk_new' (by simp) | apply Blk.alloc)
  have t10 := hb.cell 0; have t11 := hb.cell 1; have t12 := hb.cell 2; have t13 := hb.cell 3
  clear hb
  simp at t10 t11 t12 t13
  have hb : Blk wq (w2.heap.size + 1 + 1) 63 #[.int .i64 0, .nilFunc, .nilFunc, .func (.func 50) #[] #[]] := by rw [← HW.out]; repeat (first | exact blk_new' (by simp) | apply Blk.alloc)
  have t20 := hb.cell 0; have t21 := hb.cell 1; have t22 := hb.cell 2; have t23 := hb.cell 3
  clear hb
  simp at t20 t21 t22 t23
  have hb : Blk wq (w2.heap.size + 1 + 1 + 1) 63 #[.int .i64 0, .nilFunc, .nilFunc, .func (.func 51) #[] #[]] := by rw [← HW.out]; repeat (first | exact blk_new' (by simp) | apply Blk.alloc)
  have t30 := hb.cell 0; have t31 := hb.cell 1; have t32 := hb.cell 2; have t33 := hb.cell 3
  clear hb
  simp at t30 t31 t32 t33
  have hb : Blk wq (w2.heap.size + 1 + 1 + 1 + 1) 63 #[.int .i64 0, .nilFunc, .nilFunc, .func (.func 54) #[] #[]] := by rw [← HW.out]; repeat (first | exact blk_new' (by simp) | apply Blk.alloc)
  have t40 := hb.cell 0; have t41 := hb.cell 1; have t42 := hb.cell 2; have t43 := hb.cell 3
  clear hb
  simp at t40 t41 t42 t43
  clear HW hst hsn
  go_wp2_with fail
  go_ret
  exact rowpost (b1 := w.heap.size) (b2 := w1.heap.size + 1) (by have := HO.out.size; omega) (Nat.le_refl _) (by have := HZ.out; omega) (blk_new' (by simp)) (HS.out.alloc _) (HR.out.alloc _) (HO.out.alloc _)

set_option maxRecDepth 100000 in
set_option maxHeartbeats 3200000 in
theorem row_3 (w : World) : Calls Try.prog 28 #[.int .i64 3] w (RowPost 3 row3C w) := by
  have hst := fun (W : World) (a : Addr) (fn : Fn) (c : Array Value) => (run_store Try.prog W a (.func fn #[] c) .plain rfl : (store a (.func fn #[] c)).run Try.prog W = stored Try.prog W a (.func fn #[] c) .plain)
  have hsn := fun (W : World) (a : Addr) => (run_store Try.prog W a .nilFunc .plain rfl : (store a .nilFunc).run Try.prog W = stored Try.prog W a .nilFunc .plain)
  go_enter Try.func28, Try.ntmps28
  go_upto_region 17 with (go_at_call 46; refine (wnumber_any _ _).mono ?_; (first
    | (rintro e w1 ⟨rfl, hb1, hs1, ho1⟩; have HS0 : Hid (Blk w1 w.heap.size _ #[fnV 47]) := hide hb1; have HZ := hide hs1; have HF := hide (Blk.new w1 63 (numC w.heap.size).toArray); have HS := hide (HS0.out.alloc (.cells (numC w.heap.size).toArray 63)); have HO := hide (ho1.alloc (.cells (numC w.heap.size).toArray 63)); clear hb1 hs1 ho1)
    | (rintro e w2 ⟨rfl, hb1, hs1, ho1⟩; rw [World.size_alloc] at hb1 hs1; have HR : Hid (Blk w2 (w1.heap.size + 1) _ #[fnV 48]) := hide hb1; have HZ2 := hide hs1; have HS := hide (HS.out.only ho1 (by simp)); have HF := hide (HF.out.only ho1 (by simp)); have HO := hide (HO.out.trans ho1); clear hb1 hs1 ho1)))
  generalize hW : ((((((w2.alloc (.cells #[.int .i64 4, .func (.func 70) #[] #[.pointer (some ⟨w1.heap.size + 1, 0, none⟩)], .func (.func 71) #[] #[.pointer (some ⟨w1.heap.size + 1, 0, none⟩)], .nilFunc] 63)).alloc (.cells #[.int .i64 0, .nilFunc, .nilFunc, .func (.func 49) #[] #[]] 63)).alloc (.cells #[.int .i64 0, .nilFunc, .nilFunc, .func (.func 50) #[] #[]] 63)).alloc (.cells #[.int .i64 0, .nilFunc, .nilFunc, .func (.func 51) #[] #[]] 63)).alloc (.cells #[.int .i64 0, .nilFunc, .nilFunc, .func (.func 55) #[] #[]] 63)).alloc (.cells #[.int .i64 0, .nilFunc, .nilFunc, .func (.func 56) #[] #[]] 63)) = wq at *
  have HW := hide hW
  clear hW
  have HS := hide (show Blk wq w.heap.size _ #[fnV 47] from by rw [← HW.out]; repeat (first | exact HS.out | apply Blk.alloc))
  have HR := hide (show Blk wq (w1.heap.size + 1) _ #[fnV 48] from by rw [← HW.out]; repeat (first | exact HR.out | apply Blk.alloc))
  have HO := hide (show Only [] w wq from by rw [← HW.out]; repeat (first | exact HO.out | apply Only.alloc))
  have HF := hide (show Blk wq w1.heap.size 63 (numC w.heap.size).toArray from by rw [← HW.out]; repeat (first | exact HF.out | apply Blk.alloc))
  have hb : Blk wq (w2.heap.size) 63 #[.int .i64 4, .func (.func 70) #[] #[.pointer (some ⟨w1.heap.size + 1, 0, none⟩)], .func (.func 71) #[] #[.pointer (some ⟨w1.heap.size + 1, 0, none⟩)], .nilFunc] := by rw [← HW.out]; repeat (first | exact blk_new' (by simp) | apply Blk.alloc)
  have t00 := hb.cell 0; have t01 := hb.cell 1; have t02 := hb.cell 2; have t03 := hb.cell 3
  clear hb
  simp at t00 t01 t02 t03
  have hb : Blk wq (w2.heap.size + 1 + 1 + 1 + 1) 63 #[.int .i64 0, .nilFunc, .nilFunc, .func (.func 55) #[] #[]] := by rw [← HW.out]; repeat (first | exact blk_new' (by simp) | apply Blk.alloc)
  have t40 := hb.cell 0; have t41 := hb.cell 1; have t42 := hb.cell 2; have t43 := hb.cell 3
  clear hb
  simp at t40 t41 t42 t43
  have hb : Blk wq (w2.heap.size + 1 + 1 + 1 + 1 + 1) 63 #[.int .i64 0, .nilFunc, .nilFunc, .func (.func 56) #[] #[]] := by rw [← HW.out]; repeat (first | exact blk_new' (by simp) | apply Blk.alloc)
  have t50 := hb.cell 0; have t51 := hb.cell 1; have t52 := hb.cell 2; have t53 := hb.cell 3
  clear hb
  simp at t50 t51 t52 t53
  clear HW hst hsn
  go_wp2_with fail
  go_ret
  exact rowpost (b1 := w.heap.size) (b2 := w1.heap.size + 1) (by have := HO.out.size; omega) (Nat.le_refl _) (by have := HZ.out; omega) (blk_new' (by simp)) (HS.out.alloc _) (HR.out.alloc _) (HO.out.alloc _)

set_option maxRecDepth 100000 in
set_option maxHeartbeats 3200000 in
theorem row_4 (w : World) : Calls Try.prog 28 #[.int .i64 4] w (RowPost 3 row4C w) := by
  have hst := fun (W : World) (a : Addr) (fn : Fn) (c : Array Value) => (run_store Try.prog W a (.func fn #[] c) .plain rfl : (store a (.func fn #[] c)).run Try.prog W = stored Try.prog W a (.func fn #[] c) .plain)
  have hsn := fun (W : World) (a : Addr) => (run_store Try.prog W a .nilFunc .plain rfl : (store a .nilFunc).run Try.prog W = stored Try.prog W a .nilFunc .plain)
  go_enter Try.func28, Try.ntmps28
  go_upto_region 21 with (go_at_call 46; refine (wnumber_any _ _).mono ?_; (first
    | (rintro e w1 ⟨rfl, hb1, hs1, ho1⟩; have HS0 : Hid (Blk w1 w.heap.size _ #[fnV 47]) := hide hb1; have HZ := hide hs1; have HF := hide (Blk.new w1 63 (numC w.heap.size).toArray); have HS := hide (HS0.out.alloc (.cells (numC w.heap.size).toArray 63)); have HO := hide (ho1.alloc (.cells (numC w.heap.size).toArray 63)); clear hb1 hs1 ho1)
    | (rintro e w2 ⟨rfl, hb1, hs1, ho1⟩; rw [World.size_alloc] at hb1 hs1; have HR : Hid (Blk w2 (w1.heap.size + 1) _ #[fnV 48]) := hide hb1; have HZ2 := hide hs1; have HS := hide (HS.out.only ho1 (by simp)); have HF := hide (HF.out.only ho1 (by simp)); have HO := hide (HO.out.trans ho1); clear hb1 hs1 ho1)))
  generalize hW : ((((((w2.alloc (.cells #[.int .i64 4, .func (.func 70) #[] #[.pointer (some ⟨w1.heap.size + 1, 0, none⟩)], .func (.func 71) #[] #[.pointer (some ⟨w1.heap.size + 1, 0, none⟩)], .nilFunc] 63)).alloc (.cells #[.int .i64 0, .nilFunc, .nilFunc, .func (.func 49) #[] #[]] 63)).alloc (.cells #[.int .i64 0, .nilFunc, .nilFunc, .func (.func 50) #[] #[]] 63)).alloc (.cells #[.int .i64 0, .nilFunc, .nilFunc, .func (.func 51) #[] #[]] 63)).alloc (.cells #[.int .i64 8, .func (.func 57) #[] #[], .func (.func 58) #[] #[], .nilFunc] 63)).alloc (.cells #[.int .i64 0, .nilFunc, .nilFunc, .func (.func 59) #[] #[]] 63)) = wq at *
  have HW := hide hW
  clear hW
  have HS := hide (show Blk wq w.heap.size _ #[fnV 47] from by rw [← HW.out]; repeat (first | exact HS.out | apply Blk.alloc))
  have HR := hide (show Blk wq (w1.heap.size + 1) _ #[fnV 48] from by rw [← HW.out]; repeat (first | exact HR.out | apply Blk.alloc))
  have HO := hide (show Only [] w wq from by rw [← HW.out]; repeat (first | exact HO.out | apply Only.alloc))
  have HF := hide (show Blk wq w1.heap.size 63 (numC w.heap.size).toArray from by rw [← HW.out]; repeat (first | exact HF.out | apply Blk.alloc))
  have hb : Blk wq (w2.heap.size) 63 #[.int .i64 4, .func (.func 70) #[] #[.pointer (some ⟨w1.heap.size + 1, 0, none⟩)], .func (.func 71) #[] #[.pointer (some ⟨w1.heap.size + 1, 0, none⟩)], .nilFunc] := by rw [← HW.out]; repeat (first | exact blk_new' (by simp) | apply Blk.alloc)
  have t00 := hb.cell 0; have t01 := hb.cell 1; have t02 := hb.cell 2; have t03 := hb.cell 3
  clear hb
  simp at t00 t01 t02 t03
  have hb : Blk wq (w2.heap.size + 1 + 1 + 1 + 1) 63 #[.int .i64 8, .func (.func 57) #[] #[], .func (.func 58) #[] #[], .nilFunc] := by rw [← HW.out]; repeat (first | exact blk_new' (by simp) | apply Blk.alloc)
  have t40 := hb.cell 0; have t41 := hb.cell 1; have t42 := hb.cell 2; have t43 := hb.cell 3
  clear hb
  simp at t40 t41 t42 t43
  have hb : Blk wq (w2.heap.size + 1 + 1 + 1 + 1 + 1) 63 #[.int .i64 0, .nilFunc, .nilFunc, .func (.func 59) #[] #[]] := by rw [← HW.out]; repeat (first | exact blk_new' (by simp) | apply Blk.alloc)
  have t50 := hb.cell 0; have t51 := hb.cell 1; have t52 := hb.cell 2; have t53 := hb.cell 3
  clear hb
  simp at t50 t51 t52 t53
  clear HW hst hsn
  go_wp2_with fail
  go_ret
  exact rowpost (b1 := w.heap.size) (b2 := w1.heap.size + 1) (by have := HO.out.size; omega) (Nat.le_refl _) (by have := HZ.out; omega) (blk_new' (by simp)) (HS.out.alloc _) (HR.out.alloc _) (HO.out.alloc _)
end Go.Proofs.Ytfmfnfmhknlpbaa

/-
  Walks and plain words (texts Wb, Wc, Tm4). No condition beyond those that each theorem states.
-/
import Derived.Deep.RegionHeld3
import Derived.Test.YteoifokmbkpbnaaDoorQ02
namespace Go.Proofs.YteoifokmbkpbnaaDoor
section
open Go.RowKit Go.Deep

def txtC (f : FuncId) : List Value := [.int .i64 0, .nilFunc, .nilFunc, fnV f]
def cntC : List Value := [.int .i64 8, fnV 106, fnV 107, .nilFunc]
def row1C (b1 _b2 : Nat) : List Value := numC b1 ++ txtC 98 ++ txtC 101 ++ txtC 102 ++ txtC 99 ++ txtC 100
def row2C (b1 b2 : Nat) : List Value := numC b1 ++ numC b2 ++ txtC 98 ++ txtC 103 ++ txtC 99 ++ txtC 100
def row3C (_b1 b2 : Nat) : List Value := numC b2 ++ txtC 104 ++ txtC 105
def row4C (_b1 b2 : Nat) : List Value := numC b2 ++ cntC ++ txtC 108
theorem blk_new' {w : World} {g : Nat} {t : TypeId} {cs : Array Value} (h : g = w.heap.size) : Blk (w.alloc (.cells cs t)) g t cs := h ▸ Blk.new w t cs
/-- What row hands back: a row of fields in a block of its own; the two closures' places. -/
def RowPost (n : Nat) (C : Nat → Nat → List Value) (w : World) (e : Ending) (w' : World) : Prop :=
  ∃ g b1 b2, e = .returned (.slice (some ⟨g, 0, none⟩) n n) ∧ w.heap.size ≤ g ∧ w.heap.size ≤ b1 ∧ w.heap.size ≤ b2 ∧ Blk w' g 126 (C b1 b2).toArray ∧
    Blk w' b1 151 #[fnV 96] ∧ Blk w' b2 151 #[fnV 97] ∧ Only [] w w'
theorem rowpost {n : Nat} {C : Nat → Nat → List Value} {w w' : World} {g b1 b2 : Nat} (h1 : w.heap.size ≤ g) (h2 : w.heap.size ≤ b1) (h3 : w.heap.size ≤ b2) (h4 : Blk w' g 126 (C b1 b2).toArray)
    (h5 : Blk w' b1 151 #[fnV 96]) (h6 : Blk w' b2 151 #[fnV 97]) (h7 : Only [] w w') : RowPost n C w (.returned (.slice (some ⟨g, 0, none⟩) n n)) w' :=
  ⟨g, b1, b2, rfl, h1, h2, h3, h4, h5, h6, h7⟩

set_option maxRecDepth 100000 in
set_option maxHeartbeats 3200000 in
theorem row_1 (w : World) : Calls Tryd.prog 76 #[.int .i64 1] w (RowPost 6 row1C w) := by
  have hst := fun (W : World) (a : Addr) (fn : Fn) (c : Array Value) => (run_store Tryd.prog W a (.func fn #[] c) .plain rfl : (store a (.func fn #[] c)).run Tryd.prog W = stored Tryd.prog W a (.func fn #[] c) .plain)
  have hsn := fun (W : World) (a : Addr) => (run_store Tryd.prog W a .nilFunc .plain rfl : (store a .nilFunc).run Tryd.prog W = stored Tryd.prog W a .nilFunc .plain)
  go_enter Tryd.func76, Tryd.ntmps76
  go_upto_region 10 with (go_at_call 95; refine (wnumber_any _ _).mono ?_; (first
    | (rintro e w1 ⟨rfl, hb1, hs1, ho1⟩; have HS0 : Hid (Blk w1 w.heap.size _ #[fnV 96]) := hide hb1; have HZ := hide hs1; have HF := hide (Blk.new w1 126 (numC w.heap.size).toArray); have HS := hide (HS0.out.alloc (.cells (numC w.heap.size).toArray 126)); have HO := hide (ho1.alloc (.cells (numC w.heap.size).toArray 126)); clear hb1 hs1 ho1)
    | (rintro e w2 ⟨rfl, hb1, hs1, ho1⟩; rw [World.size_alloc] at hb1 hs1; have HR : Hid (Blk w2 (w1.heap.size + 1) _ #[fnV 97]) := hide hb1; have HZ2 := hide hs1; have HS := hide (HS.out.only ho1 (by simp)); have HF := hide (HF.out.only ho1 (by simp)); have HO := hide (HO.out.trans ho1); clear hb1 hs1 ho1)))
  generalize hW : ((((((w2.alloc (.cells #[.int .i64 4, .func (.func 121) #[] #[.pointer (some ⟨w1.heap.size + 1, 0, none⟩)], .func (.func 122) #[] #[.pointer (some ⟨w1.heap.size + 1, 0, none⟩)], .nilFunc] 126)).alloc (.cells #[.int .i64 0, .nilFunc, .nilFunc, .func (.func 98) #[] #[]] 126)).alloc (.cells #[.int .i64 0, .nilFunc, .nilFunc, .func (.func 99) #[] #[]] 126)).alloc (.cells #[.int .i64 0, .nilFunc, .nilFunc, .func (.func 100) #[] #[]] 126)).alloc (.cells #[.int .i64 0, .nilFunc, .nilFunc, .func (.func 101) #[] #[]] 126)).alloc (.cells #[.int .i64 0, .nilFunc, .nilFunc, .func (.func 102) #[] #[]] 126)) = wq at *
  have HW := hide hW
  clear hW
  have HS := hide (show Blk wq w.heap.size _ #[fnV 96] from by rw [← HW.out]; repeat (first | exact HS.out | apply Blk.alloc))
  have HR := hide (show Blk wq (w1.heap.size + 1) _ #[fnV 97] from by rw [← HW.out]; repeat (first | exact HR.out | apply Blk.alloc))
  have HO := hide (show Only [] w wq from by rw [← HW.out]; repeat (first | exact HO.out | apply Only.alloc))
  have HF := hide (show Blk wq w1.heap.size 126 (numC w.heap.size).toArray from by rw [← HW.out]; repeat (first | exact HF.out | apply Blk.alloc))
  have s0 := HF.out.cell 0; have s1 := HF.out.cell 1; have s2 := HF.out.cell 2; have s3 := HF.out.cell 3
  simp [numC] at s0 s1 s2 s3
  have hb : Blk wq (w2.heap.size + 1) 126 #[.int .i64 0, .nilFunc, .nilFunc, .func (.func 98) #[] #[]] := by rw [← HW.out]; repeat (first | exact blk_new' (by simp) | apply Blk.alloc)
  have t10 := hb.cell 0; have t11 := hb.cell 1; have t12 := hb.cell 2; have t13 := hb.cell 3
  clear hb
  simp at t10 t11 t12 t13
  have hb : Blk wq (w2.heap.size + 1 + 1) 126 #[.int .i64 0, .nilFunc, .nilFunc, .func (.func 99) #[] #[]] := by rw [← HW.out]; repeat (first | exact blk_new' (by simp) | apply Blk.alloc)
  have t20 := hb.cell 0; have t21 := hb.cell 1; have t22 := hb.cell 2; have t23 := hb.cell 3
  clear hb
  simp at t20 t21 t22 t23
  have hb : Blk wq (w2.heap.size + 1 + 1 + 1) 126 #[.int .i64 0, .nilFunc, .nilFunc, .func (.func 100) #[] #[]] := by rw [← HW.out]; repeat (first | exact blk_new' (by simp) | apply Blk.alloc)
  have t30 := hb.cell 0; have t31 := hb.cell 1; have t32 := hb.cell 2; have t33 := hb.cell 3
  clear hb
  simp at t30 t31 t32 t33
  have hb : Blk wq (w2.heap.size + 1 + 1 + 1 + 1) 126 #[.int .i64 0, .nilFunc, .nilFunc, .func (.func 101) #[] #[]] := by rw [← HW.out]; repeat (first | exact blk_new' (by simp) | apply Blk.alloc)
  have t40 := hb.cell 0; have t41 := hb.cell 1; have t42 := hb.cell 2; have t43 := hb.cell 3
  clear hb
  simp at t40 t41 t42 t43
  have hb : Blk wq (w2.heap.size + 1 + 1 + 1 + 1 + 1) 126 #[.int .i64 0, .nilFunc, .nilFunc, .func (.func 102) #[] #[]] := by rw [← HW.out]; repeat (first | exact blk_new' (by simp) | apply Blk.alloc)
  have t50 := hb.cell 0; have t51 := hb.cell 1; have t52 := hb.cell 2; have t53 := hb.cell 3
  clear hb
  simp at t50 t51 t52 t53
  clear HW hst hsn
  go_wp2_with fail
  go_ret
  exact rowpost (b1 := w.heap.size) (b2 := w1.heap.size + 1) (by have := HO.out.size; omega) (Nat.le_refl _) (by have := HZ.out; omega) (blk_new' (by simp)) (HS.out.alloc _) (HR.out.alloc _) (HO.out.alloc _)

set_option maxRecDepth 100000 in
set_option maxHeartbeats 3200000 in
theorem row_2 (w : World) : Calls Tryd.prog 76 #[.int .i64 2] w (RowPost 6 row2C w) := by
  have hst := fun (W : World) (a : Addr) (fn : Fn) (c : Array Value) => (run_store Tryd.prog W a (.func fn #[] c) .plain rfl : (store a (.func fn #[] c)).run Tryd.prog W = stored Tryd.prog W a (.func fn #[] c) .plain)
  have hsn := fun (W : World) (a : Addr) => (run_store Tryd.prog W a .nilFunc .plain rfl : (store a .nilFunc).run Tryd.prog W = stored Tryd.prog W a .nilFunc .plain)
  go_enter Tryd.func76, Tryd.ntmps76
  go_upto_region 13 with (go_at_call 95; refine (wnumber_any _ _).mono ?_; (first
    | (rintro e w1 ⟨rfl, hb1, hs1, ho1⟩; have HS0 : Hid (Blk w1 w.heap.size _ #[fnV 96]) := hide hb1; have HZ := hide hs1; have HF := hide (Blk.new w1 126 (numC w.heap.size).toArray); have HS := hide (HS0.out.alloc (.cells (numC w.heap.size).toArray 126)); have HO := hide (ho1.alloc (.cells (numC w.heap.size).toArray 126)); clear hb1 hs1 ho1)
    | (rintro e w2 ⟨rfl, hb1, hs1, ho1⟩; rw [World.size_alloc] at hb1 hs1; have HR : Hid (Blk w2 (w1.heap.size + 1) _ #[fnV 97]) := hide hb1; have HZ2 := hide hs1; have HS := hide (HS.out.only ho1 (by simp)); have HF := hide (HF.out.only ho1 (by simp)); have HO := hide (HO.out.trans ho1); clear hb1 hs1 ho1)))
  generalize hW : (((((w2.alloc (.cells #[.int .i64 4, .func (.func 121) #[] #[.pointer (some ⟨w1.heap.size + 1, 0, none⟩)], .func (.func 122) #[] #[.pointer (some ⟨w1.heap.size + 1, 0, none⟩)], .nilFunc] 126)).alloc (.cells #[.int .i64 0, .nilFunc, .nilFunc, .func (.func 98) #[] #[]] 126)).alloc (.cells #[.int .i64 0, .nilFunc, .nilFunc, .func (.func 99) #[] #[]] 126)).alloc (.cells #[.int .i64 0, .nilFunc, .nilFunc, .func (.func 100) #[] #[]] 126)).alloc (.cells #[.int .i64 0, .nilFunc, .nilFunc, .func (.func 103) #[] #[]] 126)) = wq at *
  have HW := hide hW
  clear hW
  have HS := hide (show Blk wq w.heap.size _ #[fnV 96] from by rw [← HW.out]; repeat (first | exact HS.out | apply Blk.alloc))
  have HR := hide (show Blk wq (w1.heap.size + 1) _ #[fnV 97] from by rw [← HW.out]; repeat (first | exact HR.out | apply Blk.alloc))
  have HO := hide (show Only [] w wq from by rw [← HW.out]; repeat (first | exact HO.out | apply Only.alloc))
  have HF := hide (show Blk wq w1.heap.size 126 (numC w.heap.size).toArray from by rw [← HW.out]; repeat (first | exact HF.out | apply Blk.alloc))
  have s0 := HF.out.cell 0; have s1 := HF.out.cell 1; have s2 := HF.out.cell 2; have s3 := HF.out.cell 3
  simp [numC] at s0 s1 s2 s3
  have hb : Blk wq (w2.heap.size) 126 #[.int .i64 4, .func (.func 121) #[] #[.pointer (some ⟨w1.heap.size + 1, 0, none⟩)], .func (.func 122) #[] #[.pointer (some ⟨w1.heap.size + 1, 0, none⟩)], .nilFunc] := by rw [← HW.out]; repeat (first | exact blk_new' (by simp) | apply Blk.alloc)
  have t00 := hb.cell 0; have t01 := hb.cell 1; have t02 := hb.cell 2; have t03 := hb.cell 3
  clear hb
  simp at t00 t01 t02 t03
  have hb : Blk wq (w2.heap.size + 1) 126 #[.int .i64 0, .nilFunc, .nilFunc, .func (.func 98) #[] #[]] := by rw [← HW.out]; repeat (first | exact blk_new' (by simp) | apply Blk.alloc)
  have t10 := hb.cell 0; have t11 := hb.cell 1; have t12 := hb.cell 2; have t13 := hb.cell 3
  clear hb
  simp at t10 t11 t12 t13
  have hb : Blk wq (w2.heap.size + 1 + 1) 126 #[.int .i64 0, .nilFunc, .nilFunc, .func (.func 99) #[] #[]] := by rw [← HW.out]; repeat (first | exact blk_new' (by simp) | apply Blk.alloc)
  have t20 := hb.cell 0; have t21 := hb.cell 1; have t22 := hb.cell 2; have t23 := hb.cell 3
  clear hb
  simp at t20 t21 t22 t23
  have hb : Blk wq (w2.heap.size + 1 + 1 + 1) 126 #[.int .i64 0, .nilFunc, .nilFunc, .func (.func 100) #[] #[]] := by rw [← HW.out]; repeat (first | exact blk_new' (by simp) | apply Blk.alloc)
  have t30 := hb.cell 0; have t31 := hb.cell 1; have t32 := hb.cell 2; have t33 := hb.cell 3
  clear hb
  simp at t30 t31 t32 t33
  have hb : Blk wq (w2.heap.size + 1 + 1 + 1 + 1) 126 #[.int .i64 0, .nilFunc, .nilFunc, .func (.func 103) #[] #[]] := by rw [← HW.out]; repeat (first | exact blk_new' (by simp) | apply Blk.alloc)
  have t40 := hb.cell 0; have t41 := hb.cell 1; have t42 := hb.cell 2; have t43 := hb.cell 3
  clear hb
  simp at t40 t41 t42 t43
  clear HW hst hsn
  go_wp2_with fail
  go_ret
  exact rowpost (b1 := w.heap.size) (b2 := w1.heap.size + 1) (by have := HO.out.size; omega) (Nat.le_refl _) (by have := HZ.out; omega) (blk_new' (by simp)) (HS.out.alloc _) (HR.out.alloc _) (HO.out.alloc _)

set_option maxRecDepth 100000 in
set_option maxHeartbeats 3200000 in
theorem row_3 (w : World) : Calls Tryd.prog 76 #[.int .i64 3] w (RowPost 3 row3C w) := by
  have hst := fun (W : World) (a : Addr) (fn : Fn) (c : Array Value) => (run_store Tryd.prog W a (.func fn #[] c) .plain rfl : (store a (.func fn #[] c)).run Tryd.prog W = stored Tryd.prog W a (.func fn #[] c) .plain)
  have hsn := fun (W : World) (a : Addr) => (run_store Tryd.prog W a .nilFunc .plain rfl : (store a .nilFunc).run Tryd.prog W = stored Tryd.prog W a .nilFunc .plain)
  go_enter Tryd.func76, Tryd.ntmps76
  go_upto_region 17 with (go_at_call 95; refine (wnumber_any _ _).mono ?_; (first
    | (rintro e w1 ⟨rfl, hb1, hs1, ho1⟩; have HS0 : Hid (Blk w1 w.heap.size _ #[fnV 96]) := hide hb1; have HZ := hide hs1; have HF := hide (Blk.new w1 126 (numC w.heap.size).toArray); have HS := hide (HS0.out.alloc (.cells (numC w.heap.size).toArray 126)); have HO := hide (ho1.alloc (.cells (numC w.heap.size).toArray 126)); clear hb1 hs1 ho1)
    | (rintro e w2 ⟨rfl, hb1, hs1, ho1⟩; rw [World.size_alloc] at hb1 hs1; have HR : Hid (Blk w2 (w1.heap.size + 1) _ #[fnV 97]) := hide hb1; have HZ2 := hide hs1; have HS := hide (HS.out.only ho1 (by simp)); have HF := hide (HF.out.only ho1 (by simp)); have HO := hide (HO.out.trans ho1); clear hb1 hs1 ho1)))
  generalize hW : ((((((w2.alloc (.cells #[.int .i64 4, .func (.func 121) #[] #[.pointer (some ⟨w1.heap.size + 1, 0, none⟩)], .func (.func 122) #[] #[.pointer (some ⟨w1.heap.size + 1, 0, none⟩)], .nilFunc] 126)).alloc (.cells #[.int .i64 0, .nilFunc, .nilFunc, .func (.func 98) #[] #[]] 126)).alloc (.cells #[.int .i64 0, .nilFunc, .nilFunc, .func (.func 99) #[] #[]] 126)).alloc (.cells #[.int .i64 0, .nilFunc, .nilFunc, .func (.func 100) #[] #[]] 126)).alloc (.cells #[.int .i64 0, .nilFunc, .nilFunc, .func (.func 104) #[] #[]] 126)).alloc (.cells #[.int .i64 0, .nilFunc, .nilFunc, .func (.func 105) #[] #[]] 126)) = wq at *
  have HW := hide hW
  clear hW
  have HS := hide (show Blk wq w.heap.size _ #[fnV 96] from by rw [← HW.out]; repeat (first | exact HS.out | apply Blk.alloc))
  have HR := hide (show Blk wq (w1.heap.size + 1) _ #[fnV 97] from by rw [← HW.out]; repeat (first | exact HR.out | apply Blk.alloc))
  have HO := hide (show Only [] w wq from by rw [← HW.out]; repeat (first | exact HO.out | apply Only.alloc))
  have HF := hide (show Blk wq w1.heap.size 126 (numC w.heap.size).toArray from by rw [← HW.out]; repeat (first | exact HF.out | apply Blk.alloc))
  have hb : Blk wq (w2.heap.size) 126 #[.int .i64 4, .func (.func 121) #[] #[.pointer (some ⟨w1.heap.size + 1, 0, none⟩)], .func (.func 122) #[] #[.pointer (some ⟨w1.heap.size + 1, 0, none⟩)], .nilFunc] := by rw [← HW.out]; repeat (first | exact blk_new' (by simp) | apply Blk.alloc)
  have t00 := hb.cell 0; have t01 := hb.cell 1; have t02 := hb.cell 2; have t03 := hb.cell 3
  clear hb
  simp at t00 t01 t02 t03
  have hb : Blk wq (w2.heap.size + 1 + 1 + 1 + 1) 126 #[.int .i64 0, .nilFunc, .nilFunc, .func (.func 104) #[] #[]] := by rw [← HW.out]; repeat (first | exact blk_new' (by simp) | apply Blk.alloc)
  have t40 := hb.cell 0; have t41 := hb.cell 1; have t42 := hb.cell 2; have t43 := hb.cell 3
  clear hb
  simp at t40 t41 t42 t43
  have hb : Blk wq (w2.heap.size + 1 + 1 + 1 + 1 + 1) 126 #[.int .i64 0, .nilFunc, .nilFunc, .func (.func 105) #[] #[]] := by rw [← HW.out]; repeat (first | exact blk_new' (by simp) | apply Blk.alloc)
  have t50 := hb.cell 0; have t51 := hb.cell 1; have t52 := hb.cell 2; have t53 := hb.cell 3
  clear hb
  simp at t50 t51 t52 t53
  clear HW hst hsn
  go_wp2_with fail
  go_ret
  exact rowpost (b1 := w.heap.size) (b2 := w1.heap.size + 1) (by have := HO.out.size; omega) (Nat.le_refl _) (by have := HZ.out; omega) (blk_new' (by simp)) (HS.out.alloc _) (HR.out.alloc _) (HO.out.alloc _)

set_option maxRecDepth 100000 in
set_option maxHeartbeats 3200000 in
theorem row_4 (w : World) : Calls Tryd.prog 76 #[.int .i64 4] w (RowPost 3 row4C w) := by
  have hst := fun (W : World) (a : Addr) (fn : Fn) (c : Array Value) => (run_store Tryd.prog W a (.func fn #[] c) .plain rfl : (store a (.func fn #[] c)).run Tryd.prog W = stored Tryd.prog W a (.func fn #[] c) .plain)
  have hsn := fun (W : World) (a : Addr) => (run_store Tryd.prog W a .nilFunc .plain rfl : (store a .nilFunc).run Tryd.prog W = stored Tryd.prog W a .nilFunc .plain)
  go_enter Tryd.func76, Tryd.ntmps76
  go_upto_region 21 with (go_at_call 95; refine (wnumber_any _ _).mono ?_; (first
    | (rintro e w1 ⟨rfl, hb1, hs1, ho1⟩; have HS0 : Hid (Blk w1 w.heap.size _ #[fnV 96]) := hide hb1; have HZ := hide hs1; have HF := hide (Blk.new w1 126 (numC w.heap.size).toArray); have HS := hide (HS0.out.alloc (.cells (numC w.heap.size).toArray 126)); have HO := hide (ho1.alloc (.cells (numC w.heap.size).toArray 126)); clear hb1 hs1 ho1)
    | (rintro e w2 ⟨rfl, hb1, hs1, ho1⟩; rw [World.size_alloc] at hb1 hs1; have HR : Hid (Blk w2 (w1.heap.size + 1) _ #[fnV 97]) := hide hb1; have HZ2 := hide hs1; have HS := hide (HS.out.only ho1 (by simp)); have HF := hide (HF.out.only ho1 (by simp)); have HO := hide (HO.out.trans ho1); clear hb1 hs1 ho1)))
  generalize hW : ((((((w2.alloc (.cells #[.int .i64 4, .func (.func 121) #[] #[.pointer (some ⟨w1.heap.size + 1, 0, none⟩)], .func (.func 122) #[] #[.pointer (some ⟨w1.heap.size + 1, 0, none⟩)], .nilFunc] 126)).alloc (.cells #[.int .i64 0, .nilFunc, .nilFunc, .func (.func 98) #[] #[]] 126)).alloc (.cells #[.int .i64 0, .nilFunc, .nilFunc, .func (.func 99) #[] #[]] 126)).alloc (.cells #[.int .i64 0, .nilFunc, .nilFunc, .func (.func 100) #[] #[]] 126)).alloc (.cells #[.int .i64 8, .func (.func 106) #[] #[], .func (.func 107) #[] #[], .nilFunc] 126)).alloc (.cells #[.int .i64 0, .nilFunc, .nilFunc, .func (.func 108) #[] #[]] 126)) = wq at *
  have HW := hide hW
  clear hW
  have HS := hide (show Blk wq w.heap.size _ #[fnV 96] from by rw [← HW.out]; repeat (first | exact HS.out | apply Blk.alloc))
  have HR := hide (show Blk wq (w1.heap.size + 1) _ #[fnV 97] from by rw [← HW.out]; repeat (first | exact HR.out | apply Blk.alloc))
  have HO := hide (show Only [] w wq from by rw [← HW.out]; repeat (first | exact HO.out | apply Only.alloc))
  have HF := hide (show Blk wq w1.heap.size 126 (numC w.heap.size).toArray from by rw [← HW.out]; repeat (first | exact HF.out | apply Blk.alloc))
  have hb : Blk wq (w2.heap.size) 126 #[.int .i64 4, .func (.func 121) #[] #[.pointer (some ⟨w1.heap.size + 1, 0, none⟩)], .func (.func 122) #[] #[.pointer (some ⟨w1.heap.size + 1, 0, none⟩)], .nilFunc] := by rw [← HW.out]; repeat (first | exact blk_new' (by simp) | apply Blk.alloc)
  have t00 := hb.cell 0; have t01 := hb.cell 1; have t02 := hb.cell 2; have t03 := hb.cell 3
  clear hb
  simp at t00 t01 t02 t03
  have hb : Blk wq (w2.heap.size + 1 + 1 + 1 + 1) 126 #[.int .i64 8, .func (.func 106) #[] #[], .func (.func 107) #[] #[], .nilFunc] := by rw [← HW.out]; repeat (first | exact blk_new' (by simp) | apply Blk.alloc)
  have t40 := hb.cell 0; have t41 := hb.cell 1; have t42 := hb.cell 2; have t43 := hb.cell 3
  clear hb
  simp at t40 t41 t42 t43
  have hb : Blk wq (w2.heap.size + 1 + 1 + 1 + 1 + 1) 126 #[.int .i64 0, .nilFunc, .nilFunc, .func (.func 108) #[] #[]] := by rw [← HW.out]; repeat (first | exact blk_new' (by simp) | apply Blk.alloc)
  have t50 := hb.cell 0; have t51 := hb.cell 1; have t52 := hb.cell 2; have t53 := hb.cell 3
  clear hb
  simp at t50 t51 t52 t53
  clear HW hst hsn
  go_wp2_with fail
  go_ret
  exact rowpost (b1 := w.heap.size) (b2 := w1.heap.size + 1) (by have := HO.out.size; omega) (Nat.le_refl _) (by have := HZ.out; omega) (blk_new' (by simp)) (HS.out.alloc _) (HR.out.alloc _) (HO.out.alloc _)
end
section
open Go.RowKit Go.Deep

/-- A reader's block g: what is left reads as l. -/
def RdrAt (w : World) (N : List Nat) (g : Nat) (l : List UInt8) : Prop :=
  ∃ G O cap, Blk w g 117 #[.slice (some ⟨G, O, none⟩) l.length cap] ∧ Rd w (g :: N) (.slice (some ⟨G, O, none⟩) l.length cap) (ints .u8 (byts l))
theorem RdrAt.only {w w' : World} {N S : List Nat} {g : Nat} {l : List UInt8} (h : RdrAt w N g l) (ho : Only S w w') (hg : g ∉ S) (hS : ∀ x ∈ S, x ∈ N) : RdrAt w' N g l := by
  obtain ⟨G, O, cap, hb, hr⟩ := h
  exact ⟨G, O, cap, hb.only ho hg, hr.only ho (fun x hx => List.mem_cons_of_mem _ (hS x hx))⟩
theorem Rd.drop_ {w : World} {N : List Nat} {G O n cap : Nat} {xs : List Value} (h : Rd w N (.slice (some ⟨G, O, none⟩) n cap) xs) (m : Nat) (hm : m ≤ n) (hc : m < cap) : Rd w N (.slice (some ⟨G, O + m, none⟩) (n - m) (cap - m)) (xs.drop m) := by
  obtain ⟨A, cap', hv, h1, h2, h3⟩ := h
  injection hv with e1 e2 e3
  subst e1 e2 e3
  refine ⟨_, _, by rw [List.length_drop], by rw [List.length_drop]; omega, by omega, ?_⟩
  rcases h3 with h3 | ⟨g, o, hA, hg, hl, hcell⟩
  · subst h3; exact .inl (by simp)
  · injection hA with hA
    injection hA with a1 a2
    subst a1 a2
    refine .inr ⟨G, O + m, rfl, hg, hl, fun i x hx => ?_⟩
    rw [List.getElem?_drop] at hx
    rw [Nat.add_assoc]
    exact hcell _ _ hx
theorem Rd.none_ {w : World} {N : List Nat} {A : Option Addr} {cap : Nat} (hc : cap ≤ maxLen) : Rd w N (.slice A 0 cap) (ints .u8 (byts [])) := ⟨A, cap, rfl, Nat.zero_le _, hc, .inl rfl⟩

/-- What take hands back. -/
def TakePostW (N : List Nat) (g n : Nat) (l : List UInt8) (w : World) (e : Ending) (w' : World) : Prop :=
  if l.length < n then e = .returned (.tuple #[.slice none 0 0, .bool false]) ∧ w = w'
  else ∃ G O cap, e = .returned (.tuple #[.slice (some ⟨G, O, none⟩) n cap, .bool true]) ∧ Rd w' (g :: N) (.slice (some ⟨G, O, none⟩) n cap) (ints .u8 (byts (l.take n))) ∧ RdrAt w' N g (l.drop n) ∧ Only [g] w w'
theorem ints_take (l : List UInt8) (n : Nat) : (ints .u8 (byts l)).take n = ints .u8 (byts (l.take n)) := by simp [ints, byts, List.map_take]
theorem ints_drop (l : List UInt8) (n : Nat) : (ints .u8 (byts l)).drop n = ints .u8 (byts (l.drop n)) := by simp [ints, byts, List.map_drop]
theorem takeW_yes {N : List Nat} {g n : Nat} {l : List UInt8} {w : World} {G O cap O2 cap2 m : Nat} (hle : ¬ l.length < n) (hb : Blk w g 117 #[.slice (some ⟨G, O, none⟩) l.length cap]) (hr : Rd w (g :: N) (.slice (some ⟨G, O, none⟩) l.length cap) (ints .u8 (byts l)))
    (hm : m = (l.drop n).length) (h2 : Rd w (g :: N) (.slice (some ⟨G, O2, none⟩) m cap2) (ints .u8 (byts (l.drop n)))) :
    TakePostW N g n l w (.returned (.tuple #[.slice (some ⟨G, O, none⟩) n cap, .bool true])) (w.setCell ⟨g, 0, none⟩ (.slice (some ⟨G, O2, none⟩) m cap2)) := by
  have ho : Only [g] w (w.setCell ⟨g, 0, none⟩ (.slice (some ⟨G, O2, none⟩) m cap2)) := (Only.refl [g] w).setCell (p := ⟨g, 0, none⟩) (.inl (by simp)) _
  unfold TakePostW
  rw [if_neg hle]
  refine ⟨G, O, cap, rfl, ?_, ⟨G, O2, cap2, ?_, ?_⟩, ho⟩
  · have h := (hr.take n (by omega)).only ho (by simp)
    rwa [ints_take] at h
  · rw [← hm]; exact hb.set_ 0 _
  · rw [← hm]; exact h2.only ho (by simp)
set_option maxRecDepth 100000 in
set_option maxHeartbeats 3200000 in
theorem take_w (w : World) (N : List Nat) (g n : Nat) (l : List UInt8) (_hl : l.length ≤ 1099511627776) (hn : n ≤ 65536) (h : RdrAt w N g l) :
    Calls Tryd.prog 109 #[.pointer (some ⟨g, 0, none⟩), .int .i64 n] w (TakePostW N g n l w) := by
  obtain ⟨G, O, cap, hb, hr⟩ := h
  obtain ⟨A, cap', hv, hc1, hc2⟩ := hr.formb
  injection hv with e1 e2 e3
  subst e3
  unfold maxLen at hc2
  have k0 := hb.cell 0
  simp at k0
  have kf := hb.frozen
  have HB := hide hb
  have HR := hide hr
  have HO := hide (Only.refl [g] w)
  clear hb hr e1 e2
  by_cases hlt : l.length < n
  · have hI : (l.length : Int) < n := by omega
    have HP := hide (fun e w' => show (e = Ending.returned (.tuple #[.slice none 0 0, .bool false]) ∧ w = w') → TakePostW N g n l w e w' from fun h => by unfold TakePostW; rw [if_pos hlt]; exact h)
    clear hlt
    go_enter Tryd.func109, Tryd.ntmps109
    go_wp2
    go_ret2
    exact HP.out _ _ ⟨rfl, rfl⟩
  · have hI : ¬ (l.length : Int) < n := by omega
    have hle : (n : Int) ≤ l.length := by omega
    have hle2 : n ≤ l.length := by omega
    by_cases hcap : n = cap
    · subst hcap
      have hlen : l.length = n := by omega
      have HT := HR.out.take n (by omega)
      clear hlt
      go_enter Tryd.func109, Tryd.ntmps109
      go_wp2
      go_ret2
      exact takeW_yes (by omega) HB.out HR.out (by rw [List.length_drop]; omega) (by rw [List.drop_of_length_le (by omega)]; exact Rd.none_ (Nat.zero_le _))
    · have hcI : ¬ (cap : Int) = n := by omega
      have hcN : ¬ cap = n := by omega
      clear hlt
      go_enter Tryd.func109, Tryd.ntmps109
      go_wp2
      go_ret2
      exact takeW_yes (by omega) HB.out HR.out (by rw [List.length_drop]) (by rw [← ints_drop]; exact HR.out.drop_ n (by omega) (by omega))

/-- A number, the lowest byte first. -/
def lowV : List UInt8 → Nat
  | [] => 0
  | b :: r => b.toNat + 256 * lowV r
theorem lowV_snoc (l : List UInt8) (b : UInt8) : lowV (l ++ [b]) = lowV l + b.toNat * 256 ^ l.length := by
  induction l with
  | nil => simp [lowV]
  | cons a r ih => rw [List.cons_append, lowV, lowV, ih, List.length_cons, Nat.pow_succ]; rw [Nat.mul_add]; rw [Nat.add_assoc]; congr 2; rw [Nat.mul_comm 256, Nat.mul_assoc]
theorem lowV_lt (l : List UInt8) : lowV l < 256 ^ l.length := by
  induction l with
  | nil => simp [lowV]
  | cons a r ih =>
    rw [lowV, List.length_cons, Nat.pow_succ]
    have := a.toNat_lt
    omega
theorem lowV_take (l : List UInt8) (k : Nat) (hk : k < l.length) : lowV (l.take (k + 1)) = lowV (l.take k) + (l.getD k 0).toNat * 256 ^ k := by
  have h : l.take (k + 1) = l.take k ++ [l.getD k 0] := by
    rw [List.take_succ_eq_append_getElem hk]
    simp [List.getElem?_eq_getElem hk]
  rw [h, lowV_snoc, List.length_take, Nat.min_eq_left (Nat.le_of_lt hk)]
set_option maxRecDepth 100000 in
theorem or_shift (u b j : Nat) (hu : u < 256 ^ j) (hb : b < 256) (hj : j < 8) : bits .or .u64 (u : Int) (IntKind.u64.wrap (IntKind.u64.wrap (b : Int) * 2 ^ (8 * j))) = ((u + b * 256 ^ j : Nat) : Int) := by
  have hp : 2 ^ (8 * j) = 256 ^ j := by rw [Nat.pow_mul]
  have h8 : 256 ^ (j + 1) ≤ 256 ^ 8 := Nat.pow_le_pow_right (by decide) (by omega)
  have e8 : 256 ^ 8 = 18446744073709551616 := by decide
  rw [e8, Nat.pow_succ] at h8
  have hb1 : b * 256 ^ j ≤ 255 * 256 ^ j := Nat.mul_le_mul_right _ (by omega)
  have hlt : b * 256 ^ j < 18446744073709551616 := by omega
  have hul : u < 18446744073709551616 := by omega
  have w1 : IntKind.u64.wrap (b : Int) = (b : Int) := by rw [IntKind.wrap_u64]; omega
  have e1 : (b : Int) * 2 ^ (8 * j) = ((b * 256 ^ j : Nat) : Int) := by rw [← hp]; push_cast; rfl
  have w2 : IntKind.u64.wrap ((b * 256 ^ j : Nat) : Int) = ((b * 256 ^ j : Nat) : Int) := by
    generalize b * 256 ^ j = x at *
    rw [IntKind.wrap_u64]; omega
  rw [w1, e1, w2]
  have e2 : (BitVec.ofInt 64 ((u : Nat) : Int)).toNat = u := by rw [BitVec.ofInt_natCast, BitVec.toNat_ofNat]; exact Nat.mod_eq_of_lt hul
  have e3 : (BitVec.ofInt 64 ((b * 256 ^ j : Nat) : Int)).toNat = b * 256 ^ j := by rw [BitVec.ofInt_natCast, BitVec.toNat_ofNat]; exact Nat.mod_eq_of_lt hlt
  have e4 : u ||| (b * 256 ^ j) = u + b * 256 ^ j := by
    have h := Nat.two_pow_add_eq_or_of_lt (i := 8 * j) (b := u) (by rw [hp]; exact hu) b
    rw [hp] at h
    rw [Nat.or_comm, Nat.mul_comm b, ← h, Nat.add_comm]
  show IntKind.u64.wrap ((BitVec.ofInt 64 ((u : Nat) : Int) ||| BitVec.ofInt 64 ((b * 256 ^ j : Nat) : Int)).toNat : Int) = _
  rw [BitVec.toNat_or, e2, e3, e4, IntKind.wrap_u64]
  omega
/-- What number hands back. -/
def NumPostW (N : List Nat) (g n : Nat) (l : List UInt8) (w : World) (e : Ending) (w' : World) : Prop :=
  if l.length < n then e = .returned (.tuple #[.int .u64 0, .bool false]) ∧ w = w'
  else e = .returned (.tuple #[.int .u64 (lowV (l.take n) : Nat), .bool true]) ∧ RdrAt w' N g (l.drop n) ∧ Only [g] w w'
set_option maxRecDepth 100000 in
set_option maxHeartbeats 3200000 in
theorem number_w (w : World) (N : List Nat) (g n : Nat) (l : List UInt8) (hl : l.length ≤ 1099511627776) (hn : n ≤ 8) (h : RdrAt w N g l) :
    Calls Tryd.prog 94 #[.pointer (some ⟨g, 0, none⟩), .int .i64 n] w (NumPostW N g n l w) := by
  have HT := hide (take_w w N g n l hl (by omega) h)
  by_cases hlt : l.length < n
  · have HP := hide (fun e w' => show (e = Ending.returned (.tuple #[.int .u64 0, .bool false]) ∧ w = w') → NumPostW N g n l w e w' from fun h => by unfold NumPostW; rw [if_pos hlt]; exact h)
    unfold TakePostW at HT
    simp only [if_pos hlt] at HT
    clear h hlt
    go_enter Tryd.func94, Tryd.ntmps94
    go_wp2_with (go_at_call 109; refine HT.out.mono ?_; rintro e w1 ⟨rfl, rfl⟩)
    go_ret2
    exact HP.out _ _ ⟨rfl, rfl⟩
  · have HP := hide (fun e w' => show (e = Ending.returned (.tuple #[.int .u64 (lowV (l.take n) : Nat), .bool true]) ∧ RdrAt w' N g (l.drop n) ∧ Only [g] w w') → NumPostW N g n l w e w' from fun h => by unfold NumPostW; rw [if_neg hlt]; exact h)
    unfold TakePostW at HT
    simp only [if_neg hlt] at HT
    have HLE := hide (show n ≤ l.length by omega)
    have HN := hide hn
    obtain ⟨q, hq⟩ : ∃ q, q = l.take n := ⟨_, rfl⟩
    have HQ := hide (show q.length = n by rw [hq, List.length_take]; omega)
    rw [← hq] at HT HP
    clear h hlt hq
    go_enter Tryd.func94, Tryd.ntmps94
    go_wp2_with (go_at_call 109; refine HT.out.mono ?_; rintro e w1 ⟨G, O, cap, rfl, hr, ha, ho⟩; have HR := hide hr; have HA := hide ha; have HO := hide ho; clear hr ha ho)
    go_loopw [21, 8] (fun i u wr => ∃ j : Nat, j ≤ n ∧ i = .int .i64 j ∧ u = .int .u64 (lowV (q.take j) : Nat) ∧ Hid (wr = w1)) (fun i _ _ => n - (intOf i).toNat)
    case atStart => exact ⟨0, Nat.zero_le _, rfl, rfl, hide rfl⟩
    case round =>
      obtain ⟨j, hj, rfl, rfl, HW⟩ := hrel
      obtain rfl := HW.out
      by_cases hlt : j < n
      · have hltI : (j : Int) < n := by omega
        have hjq : j < q.length := by rw [HQ.out]; exact hlt
        obtain ⟨g2, o2, hA, _, hg, hcell⟩ := HR.out.at_.2.2.2 j (.int .u8 (q.getD j 0).toNat) (ints_get (byts_get (by simp [List.getElem?_eq_getElem hjq])))
        cases hA
        have HST := hide (lowV_take q j hjq)
        have HLT := hide (lowV_lt (q.take j))
        have HBB := hide (q.getD j 0).toNat_lt
        have HLE2 := hide (show (q.take j).length = j by rw [List.length_take]; omega)
        generalize (q.getD j 0).toNat = b at *
        generalize lowV (q.take j) = u at *
        clear hjq
        go_wp2_with fail
        refine ⟨⟨j + 1, by omega, by go_num, ?_, (by first | exact hide trivial | exact hide rfl)⟩, by simp [intOf]; omega⟩
        rw [HST.out, or_shift u b j (by have := HLT.out; rw [HLE2.out] at this; exact this) HBB.out (by have := HN.out; omega)]
      · have hge : ¬ (j : Int) < n := by omega
        have e : q.take j = q := List.take_of_length_le (by have := HQ.out; omega)
        rw [e]
        go_wp2_with fail
        go_ret2
        exact HP.out _ _ ⟨rfl, HA.out, HO.out⟩
end
section
open Go.RowKit Go.Deep

/-- The number of a kind that a word tells. -/
def numK (k : Int) (l : List UInt8) : Option Nat := if (numR l).2 = 0 ∧ allowedV k (numR l).1 = true then some (numR l).1 else none
def gtB (a b : ByteArray) : Bool := !(Op.bytesLess a.toList b.toList || a.toList == b.toList)
/-- A term that was read: kind, number, bytes, parts. -/
abbrev Nd := Int × Nat × List UInt8 × List ByteArray
def rdEnd (s : ByteArray) (k : Int) (n : Nat) (parts : List ByteArray) (p : Nat) : Option (Nd × Nat) :=
  if peekV s p 41 = true then (if fitsV k parts.length = true then some ((k, n, [], parts), p + 1) else none) else none
/-- Read from p on: a term (none), or the parts of a term, some of which are read (some). -/
def rd (s : ByteArray) : Nat → Option (Int × Nat × List ByteArray) → Nat → Option (Nd × Nat)
  | 0, _, _ => none
  | f + 1, none, p =>
    if h : p < s.size then
      if kindV s[p].toNat = 0 then none
      else if kindV s[p].toNat = 1 then some ((1, 0, [], []), p + 1)
      else if kindV s[p].toNat = 2 ∨ kindV s[p].toNat = 3 then
        match numK (kindV s[p].toNat) (s.extract (p + 1) (wend s (p + 1))).data.toList with
        | none => none
        | some n => some ((kindV s[p].toNat, n, [], []), wend s (p + 1))
      else if kindV s[p].toNat = 4 then
        if (hexR (s.extract (p + 1) (wend s (p + 1))).data.toList).2 = 0 then some ((4, 0, (hexR (s.extract (p + 1) (wend s (p + 1))).data.toList).1, []), wend s (p + 1)) else none
      else if peekV s (p + 1) 40 = false then none
      else if numberedV (kindV s[p].toNat) = true then
        match numK (kindV s[p].toNat) (s.extract (p + 2) (wend s (p + 2))).data.toList with
        | none => none
        | some n =>
          if peekV s (wend s (p + 2)) 44 = false then none
          else if peekV s (wend s (p + 2) + 1) 41 = true then rdEnd s (kindV s[p].toNat) n [] (wend s (p + 2) + 1)
          else rd s f (some (kindV s[p].toNat, n, [])) (wend s (p + 2) + 1)
      else if peekV s (p + 2) 41 = true then rdEnd s (kindV s[p].toNat) 0 [] (p + 2)
      else rd s f (some (kindV s[p].toNat, 0, [])) (p + 2)
    else none
  | f + 1, some (k, n, parts), p =>
    match rd s f none p with
    | none => none
    | some (_, q) =>
      if k = 6 ∧ parts.length = 1 ∧ gtB (parts.getLastD ByteArray.empty) (s.extract p q) = true then none
      else if peekV s q 44 = true then rd s f (some (k, n, parts ++ [s.extract p q])) (q + 1)
      else rdEnd s k n (parts ++ [s.extract p q]) q

def NumberPost (g : Nat) (s : ByteArray) (p : Nat) (r : Option Nat) (w : World) (e : Ending) (w' : World) : Prop :=
  match r with
  | none => Fault [g] w e w'
  | some n => e = .returned (.int .u64 n) ∧ At g s (wend s p) w' ∧ Only [g] w w' ∧ n < 18446744073709551616
theorem number_no {g : Nat} {s : ByteArray} {p : Nat} {r : Option Nat} {w w' : World} (h : r = none) (ho : Only [g] w w') : NumberPost g s p r w (.panicked [{ v := .iface 159 (.agg #[]), recovered := false }]) w' := by
  subst h; exact ⟨rfl, ho⟩
theorem number_yes {g : Nat} {s : ByteArray} {p n : Nat} {r : Option Nat} {w w' : World} (h : r = some n) (hb : At g s (wend s p) w') (ho : Only [g] w w') (hn : n < 18446744073709551616) : NumberPost g s p r w (.returned (.int .u64 n)) w' := by
  subst h; exact ⟨rfl, hb, ho, hn⟩
theorem extract_size (s : ByteArray) (p q : Nat) : (s.extract p q).size ≤ s.size := by
  rw [ByteArray.size_extract]; omega

set_option maxRecDepth 100000 in
set_option maxHeartbeats 1600000 in
theorem number_any (w : World) (g : Nat) (s : ByteArray) (p : Nat) (k : Int) (hb : At g s p w) (hp : p ≤ s.size) (hs : s.size ≤ 1000000) :
    Calls Tryd.prog 124 #[.pointer (some ⟨g, 0, none⟩), .int .i64 k] w (NumberPost g s p (numK k (s.extract p (wend s p)).data.toList) w) := by
  have HW := hide (word_any w g s p hb hp (by unfold maxLen; omega))
  have hx := extract_size s p (wend s p)
  generalize hq : wend s p = q at *
  have HQ := hide hq
  clear hq
  generalize ht : s.extract p q = t at *
  have HT := hide ht
  clear ht hb
  have HN := hide (fun W => num_read W t)
  have HA := hide (fun W n => allowed_any k n W)
  have hr := numR_lt t.data.toList
  have HK := hide (show numK k t.data.toList = if (numR t.data.toList).2 = 0 ∧ allowedV k (numR t.data.toList).1 = true then some (numR t.data.toList).1 else none from rfl)
  generalize numR t.data.toList = r at *
  obtain ⟨u, c⟩ := r
  simp only at hr HK
  cases hc : ((c : Int) != 0) with
  | true =>
    have HR := hide (show numK k t.data.toList = none by rw [HK.out, if_neg]; rintro ⟨a, _⟩; subst a; simp at hc)
    go_enter Tryd.func124, Tryd.ntmps124
    go_wp2_with (first
      | (go_at_call 125; refine HW.out.mono ?_; rintro e w1 ⟨rfl, hb1, ho1⟩; rw [HQ.out, HT.out]; have HO1 := hide ho1; clear hb1 ho1)
      | (go_at_call 26; refine (HN.out _ (by omega)).mono ?_; rintro e w2 ⟨rfl, ho2⟩; have HO2 := hide (HO1.out.trans (ho2.mono (by simp))); clear ho2))
    exact ⟨rfl, number_no HR.out HO2.out⟩
  | false =>
    have hc0 : c = 0 := by simpa using hc
    cases ha : allowedV k u with
    | false =>
      have HR := hide (show numK k t.data.toList = none by rw [HK.out, if_neg]; rintro ⟨_, a⟩; rw [ha] at a; cases a)
      have HAL := hide ha
      have HC0 := hide hc0
      clear ha hc0
      go_enter Tryd.func124, Tryd.ntmps124
      go_wp2_with (first
        | (go_at_call 125; refine HW.out.mono ?_; rintro e w1 ⟨rfl, hb1, ho1⟩; rw [HQ.out, HT.out]; have HO1 := hide ho1; clear hb1 ho1)
        | (go_at_call 26; refine (HN.out _ (by omega)).mono ?_; rintro e w2 ⟨rfl, ho2⟩; have HO2 := hide (HO1.out.trans (ho2.mono (by simp))); clear ho2)
        | (go_at_call 131; refine (HA.out _ _).mono ?_; rintro e w3 ⟨rfl, rfl⟩; rw [HAL.out]))
      exact ⟨rfl, number_no HR.out HO2.out⟩
    | true =>
      have HR := hide (show numK k t.data.toList = some u by rw [HK.out, if_pos ⟨hc0, ha⟩])
      have HAL := hide ha
      have HC0 := hide hc0
      have HU := hide hr
      clear ha hc0 hr
      go_enter Tryd.func124, Tryd.ntmps124
      go_wp2_with (first
        | (go_at_call 125; refine HW.out.mono ?_; rintro e w1 ⟨rfl, hb1, ho1⟩; rw [HQ.out, HT.out]; have HO1 := hide ho1; have HB1 := hide hb1; clear hb1 ho1)
        | (go_at_call 26; refine (HN.out _ (by omega)).mono ?_; rintro e w2 ⟨rfl, ho2⟩; have HO2 := hide (HO1.out.trans (ho2.mono (by simp))); have HB2 := hide (show At g s q w2 from by have h := HB1.out; rw [HQ.out] at h; exact Blk.only h ho2 (by simp)); clear ho2)
        | (go_at_call 131; refine (HA.out _ _).mono ?_; rintro e w3 ⟨rfl, rfl⟩; rw [HAL.out]))
      go_ret
      exact number_yes HR.out (by rw [HQ.out]; exact HB2.out) HO2.out HU.out
end
end Go.Proofs.YteoifokmbkpbnaaDoor

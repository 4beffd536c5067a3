/-
  Walks and plain words (texts Wb, Copy, Sls, Tm1, Tm2, Tm3). No condition beyond those that each theorem states.
-/
import Derived.Deep.RegionHeld3
import Derived.Laws.CopyOwn
import Derived.ProofKit
import Derived.OpenShut
import Derived.Deep.Slices
import Derived.Deep.Fields
import Derived.ChangeSame
import Derived.Test.YtfipdjlalfpbnaaGreatDoorChecked
import Derived.Deep.LoopGhost
import Derived.Test.YtfipdjlalfpbnaaGreatDoorM01
namespace Go.Proofs.YtfipdjlalfpbnaaGreatDoor
section
open Go.RowKit Go.Deep

def txtC (f : FuncId) : List Value := [.int .i64 0, .nilFunc, .nilFunc, fnV f]
def cntC : List Value := [.int .i64 8, fnV 160, fnV 161, .nilFunc]
def row1C (b1 _b2 : Nat) : List Value := numC b1 ++ txtC 152 ++ txtC 155 ++ txtC 156 ++ txtC 153 ++ txtC 154
def row2C (b1 b2 : Nat) : List Value := numC b1 ++ numC b2 ++ txtC 152 ++ txtC 157 ++ txtC 153 ++ txtC 154
def row3C (_b1 b2 : Nat) : List Value := numC b2 ++ txtC 158 ++ txtC 159
def row4C (_b1 b2 : Nat) : List Value := numC b2 ++ cntC ++ txtC 162
theorem blk_new' {w : World} {g : Nat} {t : TypeId} {cs : Array Value} (h : g = w.heap.size) : Blk (w.alloc (.cells cs t)) g t cs := h ▸ Blk.new w t cs
/-- What row hands back: a row of fields in a block of its own; the two closures' places. -/
def RowPost (n : Nat) (C : Nat → Nat → List Value) (w : World) (e : Ending) (w' : World) : Prop :=
  ∃ g b1 b2, e = .returned (.slice (some ⟨g, 0, none⟩) n n) ∧ w.heap.size ≤ g ∧ w.heap.size ≤ b1 ∧ w.heap.size ≤ b2 ∧ Blk w' g 155 (C b1 b2).toArray ∧
    Blk w' b1 205 #[fnV 150] ∧ Blk w' b2 205 #[fnV 151] ∧ Only [] w w'
theorem rowpost {n : Nat} {C : Nat → Nat → List Value} {w w' : World} {g b1 b2 : Nat} (h1 : w.heap.size ≤ g) (h2 : w.heap.size ≤ b1) (h3 : w.heap.size ≤ b2) (h4 : Blk w' g 155 (C b1 b2).toArray)
    (h5 : Blk w' b1 205 #[fnV 150]) (h6 : Blk w' b2 205 #[fnV 151]) (h7 : Only [] w w') : RowPost n C w (.returned (.slice (some ⟨g, 0, none⟩) n n)) w' :=
  ⟨g, b1, b2, rfl, h1, h2, h3, h4, h5, h6, h7⟩

set_option maxRecDepth 100000 in
set_option maxHeartbeats 3200000 in
theorem row_1 (w : World) : Calls Tryz.prog 132 #[.int .i64 1] w (RowPost 6 row1C w) := by
  have hst := fun (W : World) (a : Addr) (fn : Fn) (c : Array Value) => (run_store Tryz.prog W a (.func fn #[] c) .plain rfl : (store a (.func fn #[] c)).run Tryz.prog W = stored Tryz.prog W a (.func fn #[] c) .plain)
  have hsn := fun (W : World) (a : Addr) => (run_store Tryz.prog W a .nilFunc .plain rfl : (store a .nilFunc).run Tryz.prog W = stored Tryz.prog W a .nilFunc .plain)
  go_enter Tryz.func132, Tryz.ntmps132
  go_upto_region 10 with (go_at_call 149; refine (wnumber_any _ _).mono ?_; (first
    | (rintro e w1 ⟨rfl, hb1, hs1, ho1⟩; have HS0 : Hid (Blk w1 w.heap.size _ #[fnV 150]) := hide hb1; have HZ := hide hs1; have HF := hide (Blk.new w1 155 (numC w.heap.size).toArray); have HS := hide (HS0.out.alloc (.cells (numC w.heap.size).toArray 155)); have HO := hide (ho1.alloc (.cells (numC w.heap.size).toArray 155)); clear hb1 hs1 ho1)
    | (rintro e w2 ⟨rfl, hb1, hs1, ho1⟩; rw [World.size_alloc] at hb1 hs1; have HR : Hid (Blk w2 (w1.heap.size + 1) _ #[fnV 151]) := hide hb1; have HZ2 := hide hs1; have HS := hide (HS.out.only ho1 (by simp)); have HF := hide (HF.out.only ho1 (by simp)); have HO := hide (HO.out.trans ho1); clear hb1 hs1 ho1)))
  generalize hW : ((((((w2.alloc (.cells #[.int .i64 4, .func (.func 169) #[] #[.pointer (some ⟨w1.heap.size + 1, 0, none⟩)], .func (.func 170) #[] #[.pointer (some ⟨w1.heap.size + 1, 0, none⟩)], .nilFunc] 155)).alloc (.cells #[.int .i64 0, .nilFunc, .nilFunc, .func (.func 152) #[] #[]] 155)).alloc (.cells #[.int .i64 0, .nilFunc, .nilFunc, .func (.func 153) #[] #[]] 155)).alloc (.cells #[.int .i64 0, .nilFunc, .nilFunc, .func (.func 154) #[] #[]] 155)).alloc (.cells #[.int .i64 0, .nilFunc, .nilFunc, .func (.func 155) #[] #[]] 155)).alloc (.cells #[.int .i64 0, .nilFunc, .nilFunc, .func (.func 156) #[] #[]] 155)) = wq at *
  have HW := hide hW
  clear hW
  have HS := hide (show Blk wq w.heap.size _ #[fnV 150] from by rw [← HW.out]; repeat (first | exact HS.out | apply Blk.alloc))
  have HR := hide (show Blk wq (w1.heap.size + 1) _ #[fnV 151] from by rw [← HW.out]; repeat (first | exact HR.out | apply Blk.alloc))
  have HO := hide (show Only [] w wq from by rw [← HW.out]; repeat (first | exact HO.out | apply Only.alloc))
  have HF := hide (show Blk wq w1.heap.size 155 (numC w.heap.size).toArray from by rw [← HW.out]; repeat (first | exact HF.out | apply Blk.alloc))
  have s0 := HF.out.cell 0; have s1 := HF.out.cell 1; have s2 := HF.out.cell 2; have s3 := HF.out.cell 3
  simp [numC] at s0 s1 s2 s3
  have hb : Blk wq (w2.heap.size + 1) 155 #[.int .i64 0, .nilFunc, .nilFunc, .func (.func 152) #[] #[]] := by rw [← HW.out]; repeat (first | exact blk_new' (by simp) | apply Blk.alloc)
  have t10 := hb.cell 0; have t11 := hb.cell 1; have t12 := hb.cell 2; have t13 := hb.cell 3
  clear hb
  simp at t10 t11 t12 t13
  have hb : Blk wq (w2.heap.size + 1 + 1) 155 #[.int .i64 0, .nilFunc, .nilFunc, .func (.func 153) #[] #[]] := by rw [← HW.out]; repeat (first | exact blk_new' (by simp) | apply Blk.alloc)
  have t20 := hb.cell 0; have t21 := hb.cell 1; have t22 := hb.cell 2; have t23 := hb.cell 3
  clear hb
  simp at t20 t21 t22 t23
  have hb : Blk wq (w2.heap.size + 1 + 1 + 1) 155 #[.int .i64 0, .nilFunc, .nilFunc, .func (.func 154) #[] #[]] := by rw [← HW.out]; repeat (first | exact blk_new' (by simp) | apply Blk.alloc)
  have t30 := hb.cell 0; have t31 := hb.cell 1; have t32 := hb.cell 2; have t33 := hb.cell 3
  clear hb
  simp at t30 t31 t32 t33
  have hb : Blk wq (w2.heap.size + 1 + 1 + 1 + 1) 155 #[.int .i64 0, .nilFunc, .nilFunc, .func (.func 155) #[] #[]] := by rw [← HW.out]; repeat (first | exact blk_new' (by simp) | apply Blk.alloc)
  have t40 := hb.cell 0; have t41 := hb.cell 1; have t42 := hb.cell 2; have t43 := hb.cell 3
  clear hb
  simp at t40 t41 t42 t43
  have hb : Blk wq (w2.heap.size + 1 + 1 + 1 + 1 + 1) 155 #[.int .i64 0, .nilFunc, .nilFunc, .func (.func 156) #[] #[]] := by rw [← HW.out]; repeat (first | exact blk_new' (by simp) | apply Blk.alloc)
  have t50 := hb.cell 0; have t51 := hb.cell 1; have t52 := hb.cell 2; have t53 := hb.cell 3
  clear hb
  simp at t50 t51 t52 t53
  clear HW hst hsn
  go_wp2_with fail
  go_ret
  exact rowpost (b1 := w.heap.size) (b2 := w1.heap.size + 1) (by have := HO.out.size; omega) (Nat.le_refl _) (by have := HZ.out; omega) (blk_new' (by simp)) (HS.out.alloc _) (HR.out.alloc _) (HO.out.alloc _)

set_option maxRecDepth 100000 in
set_option maxHeartbeats 3200000 in
theorem row_2 (w : World) : Calls Tryz.prog 132 #[.int .i64 2] w (RowPost 6 row2C w) := by
  have hst := fun (W : World) (a : Addr) (fn : Fn) (c : Array Value) => (run_store Tryz.prog W a (.func fn #[] c) .plain rfl : (store a (.func fn #[] c)).run Tryz.prog W = stored Tryz.prog W a (.func fn #[] c) .plain)
  have hsn := fun (W : World) (a : Addr) => (run_store Tryz.prog W a .nilFunc .plain rfl : (store a .nilFunc).run Tryz.prog W = stored Tryz.prog W a .nilFunc .plain)
  go_enter Tryz.func132, Tryz.ntmps132
  go_upto_region 13 with (go_at_call 149; refine (wnumber_any _ _).mono ?_; (first
    | (rintro e w1 ⟨rfl, hb1, hs1, ho1⟩; have HS0 : Hid (Blk w1 w.heap.size _ #[fnV 150]) := hide hb1; have HZ := hide hs1; have HF := hide (Blk.new w1 155 (numC w.heap.size).toArray); have HS := hide (HS0.out.alloc (.cells (numC w.heap.size).toArray 155)); have HO := hide (ho1.alloc (.cells (numC w.heap.size).toArray 155)); clear hb1 hs1 ho1)
    | (rintro e w2 ⟨rfl, hb1, hs1, ho1⟩; rw [World.size_alloc] at hb1 hs1; have HR : Hid (Blk w2 (w1.heap.size + 1) _ #[fnV 151]) := hide hb1; have HZ2 := hide hs1; have HS := hide (HS.out.only ho1 (by simp)); have HF := hide (HF.out.only ho1 (by simp)); have HO := hide (HO.out.trans ho1); clear hb1 hs1 ho1)))
  generalize hW : (((((w2.alloc (.cells #[.int .i64 4, .func (.func 169) #[] #[.pointer (some ⟨w1.heap.size + 1, 0, none⟩)], .func (.func 170) #[] #[.pointer (some ⟨w1.heap.size + 1, 0, none⟩)], .nilFunc] 155)).alloc (.cells #[.int .i64 0, .nilFunc, .nilFunc, .func (.func 152) #[] #[]] 155)).alloc (.cells #[.int .i64 0, .nilFunc, .nilFunc, .func (.func 153) #[] #[]] 155)).alloc (.cells #[.int .i64 0, .nilFunc, .nilFunc, .func (.func 154) #[] #[]] 155)).alloc (.cells #[.int .i64 0, .nilFunc, .nilFunc, .func (.func 157) #[] #[]] 155)) = wq at *
  have HW := hide hW
  clear hW
  have HS := hide (show Blk wq w.heap.size _ #[fnV 150] from by rw [← HW.out]; repeat (first | exact HS.out | apply Blk.alloc))
  have HR := hide (show Blk wq (w1.heap.size + 1) _ #[fnV 151] from by rw [← HW.out]; repeat (first | exact HR.out | apply Blk.alloc))
  have HO := hide (show Only [] w wq from by rw [← HW.out]; repeat (first | exact HO.out | apply Only.alloc))
  have HF := hide (show Blk wq w1.heap.size 155 (numC w.heap.size).toArray from by rw [← HW.out]; repeat (first | exact HF.out | apply Blk.alloc))
  have s0 := HF.out.cell 0; have s1 := HF.out.cell 1; have s2 := HF.out.cell 2; have s3 := HF.out.cell 3
  simp [numC] at s0 s1 s2 s3
  have hb : Blk wq (w2.heap.size) 155 #[.int .i64 4, .func (.func 169) #[] #[.pointer (some ⟨w1.heap.size + 1, 0, none⟩)], .func (.func 170) #[] #[.pointer (some ⟨w1.heap.size + 1, 0, none⟩)], .nilFunc] := by rw [← HW.out]; repeat (first | exact blk_new' (by simp) | apply Blk.alloc)
  have t00 := hb.cell 0; have t01 := hb.cell 1; have t02 := hb.cell 2; have t03 := hb.cell 3
  clear hb
  simp at t00 t01 t02 t03
  have hb : Blk wq (w2.heap.size + 1) 155 #[.int .i64 0, .nilFunc, .nilFunc, .func (.func 152) #[] #[]] := by rw [← HW.out]; repeat (first | exact blk_new' (by simp) | apply Blk.alloc)
  have t10 := hb.cell 0; have t11 := hb.cell 1; have t12 := hb.cell 2; have t13 := hb.cell 3
  clear hb
  simp at t10 t11 t12 t13
  have hb : Blk wq (w2.heap.size + 1 + 1) 155 #[.int .i64 0, .nilFunc, .nilFunc, .func (.func 153) #[] #[]] := by rw [← HW.out]; repeat (first | exact blk_new' (by simp) | apply Blk.alloc)
  have t20 := hb.cell 0; have t21 := hb.cell 1; have t22 := hb.cell 2; have t23 := hb.cell 3
  clear hb
  simp at t20 t21 t22 t23
  have hb : Blk wq (w2.heap.size + 1 + 1 + 1) 155 #[.int .i64 0, .nilFunc, .nilFunc, .func (.func 154) #[] #[]] := by rw [← HW.out]; repeat (first | exact blk_new' (by simp) | apply Blk.alloc)
  have t30 := hb.cell 0; have t31 := hb.cell 1; have t32 := hb.cell 2; have t33 := hb.cell 3
  clear hb
  simp at t30 t31 t32 t33
  have hb : Blk wq (w2.heap.size + 1 + 1 + 1 + 1) 155 #[.int .i64 0, .nilFunc, .nilFunc, .func (.func 157) #[] #[]] := by rw [← HW.out]; repeat (first | exact blk_new' (by simp) | apply Blk.alloc)
  have t40 := hb.cell 0; have t41 := hb.cell 1; have t42 := hb.cell 2; have t43 := hb.cell 3
  clear hb
  simp at t40 t41 t42 t43
  clear HW hst hsn
  go_wp2_with fail
  go_ret
  exact rowpost (b1 := w.heap.size) (b2 := w1.heap.size + 1) (by have := HO.out.size; omega) (Nat.le_refl _) (by have := HZ.out; omega) (blk_new' (by simp)) (HS.out.alloc _) (HR.out.alloc _) (HO.out.alloc _)

set_option maxRecDepth 100000 in
set_option maxHeartbeats 3200000 in
theorem row_3 (w : World) : Calls Tryz.prog 132 #[.int .i64 3] w (RowPost 3 row3C w) := by
  have hst := fun (W : World) (a : Addr) (fn : Fn) (c : Array Value) => (run_store Tryz.prog W a (.func fn #[] c) .plain rfl : (store a (.func fn #[] c)).run Tryz.prog W = stored Tryz.prog W a (.func fn #[] c) .plain)
  have hsn := fun (W : World) (a : Addr) => (run_store Tryz.prog W a .nilFunc .plain rfl : (store a .nilFunc).run Tryz.prog W = stored Tryz.prog W a .nilFunc .plain)
  go_enter Tryz.func132, Tryz.ntmps132
  go_upto_region 17 with (go_at_call 149; refine (wnumber_any _ _).mono ?_; (first
    | (rintro e w1 ⟨rfl, hb1, hs1, ho1⟩; have HS0 : Hid (Blk w1 w.heap.size _ #[fnV 150]) := hide hb1; have HZ := hide hs1; have HF := hide (Blk.new w1 155 (numC w.heap.size).toArray); have HS := hide (HS0.out.alloc (.cells (numC w.heap.size).toArray 155)); have HO := hide (ho1.alloc (.cells (numC w.heap.size).toArray 155)); clear hb1 hs1 ho1)
    | (rintro e w2 ⟨rfl, hb1, hs1, ho1⟩; rw [World.size_alloc] at hb1 hs1; have HR : Hid (Blk w2 (w1.heap.size + 1) _ #[fnV 151]) := hide hb1; have HZ2 := hide hs1; have HS := hide (HS.out.only ho1 (by simp)); have HF := hide (HF.out.only ho1 (by simp)); have HO := hide (HO.out.trans ho1); clear hb1 hs1 ho1)))
  generalize hW : ((((((w2.alloc (.cells #[.int .i64 4, .func (.func 169) #[] #[.pointer (some ⟨w1.heap.size + 1, 0, none⟩)], .func (.func 170) #[] #[.pointer (some ⟨w1.heap.size + 1, 0, none⟩)], .nilFunc] 155)).alloc (.cells #[.int .i64 0, .nilFunc, .nilFunc, .func (.func 152) #[] #[]] 155)).alloc (.cells #[.int .i64 0, .nilFunc, .nilFunc, .func (.func 153) #[] #[]] 155)).alloc (.cells #[.int .i64 0, .nilFunc, .nilFunc, .func (.func 154) #[] #[]] 155)).alloc (.cells #[.int .i64 0, .nilFunc, .nilFunc, .func (.func 158) #[] #[]] 155)).alloc (.cells #[.int .i64 0, .nilFunc, .nilFunc, .func (.func 159) #[] #[]] 155)) = wq at *
  have HW := hide hW
  clear hW
  have HS := hide (show Blk wq w.heap.size _ #[fnV 150] from by rw [← HW.out]; repeat (first | exact HS.out | apply Blk.alloc))
  have HR := hide (show Blk wq (w1.heap.size + 1) _ #[fnV 151] from by rw [← HW.out]; repeat (first | exact HR.out | apply Blk.alloc))
  have HO := hide (show Only [] w wq from by rw [← HW.out]; repeat (first | exact HO.out | apply Only.alloc))
  have HF := hide (show Blk wq w1.heap.size 155 (numC w.heap.size).toArray from by rw [← HW.out]; repeat (first | exact HF.out | apply Blk.alloc))
  have hb : Blk wq (w2.heap.size) 155 #[.int .i64 4, .func (.func 169) #[] #[.pointer (some ⟨w1.heap.size + 1, 0, none⟩)], .func (.func 170) #[] #[.pointer (some ⟨w1.heap.size + 1, 0, none⟩)], .nilFunc] := by rw [← HW.out]; repeat (first | exact blk_new' (by simp) | apply Blk.alloc)
  have t00 := hb.cell 0; have t01 := hb.cell 1; have t02 := hb.cell 2; have t03 := hb.cell 3
  clear hb
  simp at t00 t01 t02 t03
  have hb : Blk wq (w2.heap.size + 1 + 1 + 1 + 1) 155 #[.int .i64 0, .nilFunc, .nilFunc, .func (.func 158) #[] #[]] := by rw [← HW.out]; repeat (first | exact blk_new' (by simp) | apply Blk.alloc)
  have t40 := hb.cell 0; have t41 := hb.cell 1; have t42 := hb.cell 2; have t43 := hb.cell 3
  clear hb
  simp at t40 t41 t42 t43
  have hb : Blk wq (w2.heap.size + 1 + 1 + 1 + 1 + 1) 155 #[.int .i64 0, .nilFunc, .nilFunc, .func (.func 159) #[] #[]] := by rw [← HW.out]; repeat (first | exact blk_new' (by simp) | apply Blk.alloc)
  have t50 := hb.cell 0; have t51 := hb.cell 1; have t52 := hb.cell 2; have t53 := hb.cell 3
  clear hb
  simp at t50 t51 t52 t53
  clear HW hst hsn
  go_wp2_with fail
  go_ret
  exact rowpost (b1 := w.heap.size) (b2 := w1.heap.size + 1) (by have := HO.out.size; omega) (Nat.le_refl _) (by have := HZ.out; omega) (blk_new' (by simp)) (HS.out.alloc _) (HR.out.alloc _) (HO.out.alloc _)

set_option maxRecDepth 100000 in
set_option maxHeartbeats 3200000 in
theorem row_4 (w : World) : Calls Tryz.prog 132 #[.int .i64 4] w (RowPost 3 row4C w) := by
  have hst := fun (W : World) (a : Addr) (fn : Fn) (c : Array Value) => (run_store Tryz.prog W a (.func fn #[] c) .plain rfl : (store a (.func fn #[] c)).run Tryz.prog W = stored Tryz.prog W a (.func fn #[] c) .plain)
  have hsn := fun (W : World) (a : Addr) => (run_store Tryz.prog W a .nilFunc .plain rfl : (store a .nilFunc).run Tryz.prog W = stored Tryz.prog W a .nilFunc .plain)
  go_enter Tryz.func132, Tryz.ntmps132
  go_upto_region 21 with (go_at_call 149; refine (wnumber_any _ _).mono ?_; (first
    | (rintro e w1 ⟨rfl, hb1, hs1, ho1⟩; have HS0 : Hid (Blk w1 w.heap.size _ #[fnV 150]) := hide hb1; have HZ := hide hs1; have HF := hide (Blk.new w1 155 (numC w.heap.size).toArray); have HS := hide (HS0.out.alloc (.cells (numC w.heap.size).toArray 155)); have HO := hide (ho1.alloc (.cells (numC w.heap.size).toArray 155)); clear hb1 hs1 ho1)
    | (rintro e w2 ⟨rfl, hb1, hs1, ho1⟩; rw [World.size_alloc] at hb1 hs1; have HR : Hid (Blk w2 (w1.heap.size + 1) _ #[fnV 151]) := hide hb1; have HZ2 := hide hs1; have HS := hide (HS.out.only ho1 (by simp)); have HF := hide (HF.out.only ho1 (by simp)); have HO := hide (HO.out.trans ho1); clear hb1 hs1 ho1)))
  generalize hW : ((((((w2.alloc (.cells #[.int .i64 4, .func (.func 169) #[] #[.pointer (some ⟨w1.heap.size + 1, 0, none⟩)], .func (.func 170) #[] #[.pointer (some ⟨w1.heap.size + 1, 0, none⟩)], .nilFunc] 155)).alloc (.cells #[.int .i64 0, .nilFunc, .nilFunc, .func (.func 152) #[] #[]] 155)).alloc (.cells #[.int .i64 0, .nilFunc, .nilFunc, .func (.func 153) #[] #[]] 155)).alloc (.cells #[.int .i64 0, .nilFunc, .nilFunc, .func (.func 154) #[] #[]] 155)).alloc (.cells #[.int .i64 8, .func (.func 160) #[] #[], .func (.func 161) #[] #[], .nilFunc] 155)).alloc (.cells #[.int .i64 0, .nilFunc, .nilFunc, .func (.func 162) #[] #[]] 155)) = wq at *
  have HW := hide hW
  clear hW
  have HS := hide (show Blk wq w.heap.size _ #[fnV 150] from by rw [← HW.out]; repeat (first | exact HS.out | apply Blk.alloc))
  have HR := hide (show Blk wq (w1.heap.size + 1) _ #[fnV 151] from by rw [← HW.out]; repeat (first | exact HR.out | apply Blk.alloc))
  have HO := hide (show Only [] w wq from by rw [← HW.out]; repeat (first | exact HO.out | apply Only.alloc))
  have HF := hide (show Blk wq w1.heap.size 155 (numC w.heap.size).toArray from by rw [← HW.out]; repeat (first | exact HF.out | apply Blk.alloc))
  have hb : Blk wq (w2.heap.size) 155 #[.int .i64 4, .func (.func 169) #[] #[.pointer (some ⟨w1.heap.size + 1, 0, none⟩)], .func (.func 170) #[] #[.pointer (some ⟨w1.heap.size + 1, 0, none⟩)], .nilFunc] := by rw [← HW.out]; repeat (first | exact blk_new' (by simp) | apply Blk.alloc)
  have t00 := hb.cell 0; have t01 := hb.cell 1; have t02 := hb.cell 2; have t03 := hb.cell 3
  clear hb
  simp at t00 t01 t02 t03
  have hb : Blk wq (w2.heap.size + 1 + 1 + 1 + 1) 155 #[.int .i64 8, .func (.func 160) #[] #[], .func (.func 161) #[] #[], .nilFunc] := by rw [← HW.out]; repeat (first | exact blk_new' (by simp) | apply Blk.alloc)
  have t40 := hb.cell 0; have t41 := hb.cell 1; have t42 := hb.cell 2; have t43 := hb.cell 3
  clear hb
  simp at t40 t41 t42 t43
  have hb : Blk wq (w2.heap.size + 1 + 1 + 1 + 1 + 1) 155 #[.int .i64 0, .nilFunc, .nilFunc, .func (.func 162) #[] #[]] := by rw [← HW.out]; repeat (first | exact blk_new' (by simp) | apply Blk.alloc)
  have t50 := hb.cell 0; have t51 := hb.cell 1; have t52 := hb.cell 2; have t53 := hb.cell 3
  clear hb
  simp at t50 t51 t52 t53
  clear HW hst hsn
  go_wp2_with fail
  go_ret
  exact rowpost (b1 := w.heap.size) (b2 := w1.heap.size + 1) (by have := HO.out.size; omega) (Nat.le_refl _) (by have := HZ.out; omega) (blk_new' (by simp)) (HS.out.alloc _) (HR.out.alloc _) (HO.out.alloc _)
end
section
open Go.RowKit

theorem madeCells_one (z : Value) (hz : z.cells = #[z]) (n : Nat) : madeCells z.cells n = (List.replicate n z).toArray := by
  rw [hz]
  apply Array.ext
  · simp [madeCells]
  · intro i h1 h2
    simp [madeCells, Nat.mod_one]

theorem run_make_row {P : Program} (w : World) (t e : TypeId) (i : TypeInfo) (z : Value) (ht : P.underlying t = some (.slice e)) (hi : P.info? e = some i) (hz : i.zero = some z) (hs : i.size = 1) (hc : z.cells = #[z])
    (kl kc : IntKind) (l c : Nat) (hlc : l ≤ c) (hbytes : i.bytes * c ≤ 281474976710656) (h63 : c ≤ 9223372036854775807) :
    (Instr.makeSlice t (.int kl (l : Int)) (.int kc (c : Int))).run P w = .ok (.slice (some ⟨w.heap.size, 0, none⟩) l c) (w.alloc (.cells (Array.replicate c z) e)) := by
  have hb' : (i.bytes : Int) * (c : Int) ≤ 281474976710656 := by
    have h : ((i.bytes * c : Nat) : Int) ≤ 281474976710656 := by omega
    rwa [Int.natCast_mul] at h
  have h := run_make (P := P) w t e i z ht hi hz kl kc l c (by omega) (by omega) hb' (by omega)
  rw [h, Int.toNat_natCast, Int.toNat_natCast, hs, Nat.mul_one, madeCells_one z hc, List.toArray_replicate]
end
section
open Go.RowKit Go.Deep

def RdS {α : Type} (k : Nat) (F : α → List Value) (w : World) (N : List Nat) (v : Value) (l : List α) : Prop :=
  ∃ (A : Option Addr) (cap : Nat), v = .slice A l.length cap ∧ l.length ≤ cap ∧ cap ≤ maxLen ∧
    (l = [] ∨ ∃ g o, A = some ⟨g, o, none⟩ ∧ g ∉ N ∧ g < w.heap.size ∧ ∀ i p, l[i]? = some p → ∀ j u, (F p)[j]? = some u → w.cell? ⟨g, o + (i * k + j), none⟩ = some u)

section
variable {α : Type} {k : Nat} {F : α → List Value} {w w' : World} {N S : List Nat} {v : Value} {l : List α}
theorem RdS.nil (w : World) (N : List Nat) : RdS k F w N (.slice none 0 0) [] := ⟨none, 0, rfl, Nat.le_refl _, Nat.zero_le _, .inl rfl⟩
theorem RdS.form (h : RdS k F w N v l) : ∃ A cap, v = .slice A l.length cap ∧ l.length ≤ cap ∧ cap ≤ maxLen := by
  obtain ⟨A, cap, hv, hc, hm, _⟩ := h
  exact ⟨A, cap, hv, hc, hm⟩
theorem RdS.only (h : RdS k F w N v l) (ho : Only S w w') (hs : ∀ x ∈ S, x ∈ N) : RdS k F w' N v l := by
  obtain ⟨A, cap, hv, hc, hm, h⟩ := h
  refine ⟨A, cap, hv, hc, hm, ?_⟩
  rcases h with h | ⟨g, o, hA, hg, hl, hcell⟩
  · exact .inl h
  · exact .inr ⟨g, o, hA, hg, Nat.lt_of_lt_of_le hl ho.size, fun i p hp j u hu => (cell_only ho hl (fun hh => hg (hs _ hh))).trans (hcell i p hp j u hu)⟩
theorem RdS.cell {g o n cap : Nat} (h : RdS k F w N (.slice (some ⟨g, o, none⟩) n cap) l) {i : Nat} {p : α} (hp : l[i]? = some p) {j : Nat} {u : Value} (hu : (F p)[j]? = some u) : w.cell? ⟨g, o + (i * k + j), none⟩ = some u := by
  obtain ⟨A', cap', hv, _, _, h⟩ := h
  injection hv with h1 h2 h3
  rcases h with h | ⟨g', o', hA, _, _, hc⟩
  · subst h; simp at hp
  · rw [← h1] at hA
    injection hA with hA
    injection hA with e1 e2
    subst e1 e2
    exact hc i p hp j u hu
end

theorem flat_get {α β : Type} (F : α → List β) (k : Nat) (hk : ∀ p, (F p).length = k) : ∀ (l : List α) (i : Nat) (p : α), l[i]? = some p → ∀ j, j < k → (l.flatMap F)[i * k + j]? = (F p)[j]?
  | [], i, p, h, _, _ => by simp at h
  | x :: r, 0, p, h, j, hj => by
    simp at h
    subst h
    rw [List.flatMap_cons, Nat.zero_mul, Nat.zero_add, List.getElem?_append_left (by rw [hk]; exact hj)]
  | x :: r, i + 1, p, h, j, hj => by
    rw [List.getElem?_cons_succ] at h
    rw [List.flatMap_cons, List.getElem?_append_right (by rw [hk, Nat.succ_mul]; omega), hk, show (i + 1) * k + j - k = i * k + j by rw [Nat.succ_mul]; omega]
    exact flat_get F k hk r i p h j hj
theorem flat_len {α β : Type} (F : α → List β) (k : Nat) (hk : ∀ p, (F p).length = k) (l : List α) : (l.flatMap F).length = l.length * k := by
  induction l with
  | nil => simp
  | cons x r ih => rw [List.flatMap_cons, List.length_append, ih, hk, List.length_cons, Nat.succ_mul, Nat.add_comm]

theorem RdS.of_own {α : Type} {k : Nat} {F : α → List Value} {w : World} {N : List Nat} {v : Value} {l : List α} {base e n : Nat} (hk : ∀ p, (F p).length = k) (hk0 : 0 < k) (h : w.ownsRow base e k v n (l.flatMap F)) (hN : ∀ x ∈ N, x < base) : RdS k F w N v l ∧ l.length = n := by
  obtain ⟨h1, h2⟩ := h
  rw [flat_len F k hk] at h1
  have hn : l.length = n := Nat.eq_of_mul_eq_mul_right hk0 h1
  refine ⟨?_, hn⟩
  rcases h2 with ⟨rfl, rfl⟩ | ⟨g, cap, cur, rfl, hg, hh, hnc, hm, hs, hx⟩
  · rw [List.length_eq_zero_iff] at hn
    subst hn
    exact RdS.nil w N
  · refine ⟨_, cap, by rw [hn], by omega, hm, .inr ⟨g, 0, rfl, fun hh => by have := hN g hh; omega, Blk.lt (t := e) (cs := cur) hh, fun i p hp j u hu => ?_⟩⟩
    have hj : j < k := by
      have := (List.getElem?_eq_some_iff.1 hu).1
      rwa [hk] at this
    have hget := flat_get F k hk l i p hp j hj
    rw [hu, ← hx, List.getElem?_take] at hget
    rw [Nat.zero_add, Blk.cell (t := e) (cs := cur) hh]
    split at hget
    · simpa using hget
    · cases hget
end
section
open Go.RowKit

def kindV (c : Int) : Int :=
  if c = 48 then 1 else if c = 97 then 2 else if c = 110 then 3 else if c = 120 then 4 else if c = 112 then 5 else if c = 100 then 6
  else if c = 104 then 7 else if c = 107 then 8 else if c = 109 then 9 else if c = 115 then 10 else if c = 108 then 11 else 0
set_option maxHeartbeats 1600000 in
theorem kindOf_any (c : Int) (w : World) : Calls Tryz.prog 143 #[.int .u8 c] w fun e w' => e = .returned (.int .i64 (kindV c)) ∧ w = w' := by
  go_enter Tryz.func143, Tryz.ntmps143
  go_wp2
  all_goals
    go_ret
    exact ⟨by simp_all [kindV], rfl⟩

def numberedV (k : Int) : Bool := (k == 2) || (k == 3) || (k == 8) || (k == 10)
set_option maxHeartbeats 1600000 in
theorem numbered_any (k : Int) (w : World) : Calls Tryz.prog 110 #[.int .i64 k] w fun e w' => e = .returned (.bool (numberedV k)) ∧ w = w' := by
  go_enter Tryz.func110, Tryz.ntmps110
  go_wp2
  all_goals
    go_ret
    exact ⟨by simp_all [numberedV], rfl⟩

def allowedV (k n : Int) : Bool := if k = 2 then decide (n ≤ 4294967295) else if k = 8 then decide (1 ≤ n ∧ n ≤ 3) else true
set_option maxHeartbeats 1600000 in
theorem allowed_any (k n : Int) (w : World) : Calls Tryz.prog 112 #[.int .i64 k, .int .u64 n] w fun e w' => e = .returned (.bool (allowedV k n)) ∧ w = w' := by
  go_enter Tryz.func112, Tryz.ntmps112
  go_wp2
  all_goals
    go_ret
    exact ⟨by first | (simp_all [allowedV]; done) | (simp_all [allowedV]; omega), rfl⟩

def leastV (k : Int) : Int := if k = 5 then 1 else if k = 6 ∨ k = 8 ∨ k = 9 then 2 else if k = 10 then 3 else if k = 7 then 1 else 0
def mostV (k : Int) : Int := if k = 5 then 1 else if k = 6 ∨ k = 8 ∨ k = 9 then 2 else if k = 10 then 3 else if k = 7 then -1 else if k = 11 then -1 else 0
set_option maxHeartbeats 1600000 in
theorem arity_any (k : Int) (w : World) : Calls Tryz.prog 134 #[.int .i64 k] w fun e w' => e = .returned (.tuple #[.int .i64 (leastV k), .int .i64 (mostV k)]) ∧ w = w' := by
  go_enter Tryz.func134, Tryz.ntmps134
  go_wp2
  all_goals
    go_ret2
    exact ⟨by simp_all [leastV, mostV], rfl⟩

def fitsV (k c : Int) : Bool := decide (leastV k ≤ c) && (decide (mostV k < 0) || decide (c ≤ mostV k))
set_option maxHeartbeats 1600000 in
theorem fits_any (k c : Int) (w : World) : Calls Tryz.prog 113 #[.int .i64 k, .int .i64 c] w fun e w' => e = .returned (.bool (fitsV k c)) ∧ w = w' := by
  go_enter Tryz.func113, Tryz.ntmps113
  go_wp2_with (go_at_call 134; refine (arity_any _ _).mono ?_; rintro e w' ⟨rfl, rfl⟩)
  all_goals
    go_ret
    exact ⟨by first | (simp_all [fitsV]; done) | (simp_all [fitsV]; omega), rfl⟩

def signV (r : Int) : Int := if 48 ≤ r ∧ r ≤ 57 then r - 48 else if 97 ≤ r ∧ r ≤ 102 then r - 87 else -1
set_option maxHeartbeats 1600000 in
theorem sign_any (r : Int) (w : World) : Calls Tryz.prog 167 #[.int .i32 r] w fun e w' => e = .returned (.int .i64 (signV r)) ∧ w = w' := by
  by_cases h1 : 48 ≤ r ∧ r ≤ 57
  · obtain ⟨h1, h2⟩ := h1
    have hv : signV r = r - 48 := by unfold signV; rw [if_pos ⟨h1, h2⟩]
    have HV := hide hv
    clear hv
    go_enter Tryz.func167, Tryz.ntmps167
    go_wp2
    all_goals
      go_ret
      exact ⟨(by rw [HV.out]; rfl), rfl⟩
  · by_cases h2 : 97 ≤ r ∧ r ≤ 102
    · obtain ⟨h2, h3⟩ := h2
      have hv : signV r = r - 97 + 10 := by unfold signV; rw [if_neg h1, if_pos ⟨h2, h3⟩]; omega
      have h4 : ¬ r ≤ 57 := by omega
      have h5 : 48 ≤ r := by omega
      have HV := hide hv
      clear hv h1
      go_enter Tryz.func167, Tryz.ntmps167
      go_wp2
      all_goals
        go_ret
        exact ⟨(by rw [HV.out]; rfl), rfl⟩
    · have hv : signV r = -1 := by unfold signV; rw [if_neg h1, if_neg h2]
      have HV := hide hv
      clear hv
      by_cases a : 48 ≤ r <;> by_cases b : r ≤ 57 <;> by_cases c : 97 ≤ r <;> by_cases d : r ≤ 102
      all_goals first
        | (exfalso; omega)
        | (clear h1 h2
           go_enter Tryz.func167, Tryz.ntmps167
           go_wp2
           all_goals
             go_ret
             exact ⟨(by rw [HV.out]; rfl), rfl⟩)
end
section
open Go.RowKit Go.Deep

def del (c : UInt8) : Bool := c == 44 || c == 41 || c == 40
/-- The end of the word that begins at p. -/
def wend (s : ByteArray) (p : Nat) : Nat := p + ((s.data.toList.drop p).takeWhile fun c => !del c).length
theorem drop_at (s : ByteArray) (p : Nat) (h : p < s.size) : s.data.toList.drop p = s[p] :: s.data.toList.drop (p + 1) := by
  rw [List.drop_eq_getElem_cons (by simpa using h)]; rfl
theorem wend_end (s : ByteArray) (p : Nat) (h : s.size ≤ p) : wend s p = p := by
  unfold wend; rw [List.drop_of_length_le (by simpa using h)]; simp
theorem wend_stop (s : ByteArray) (p : Nat) (h : p < s.size) (hd : del s[p] = true) : wend s p = p := by
  unfold wend; rw [drop_at s p h]; simp [hd]
theorem wend_step (s : ByteArray) (p : Nat) (h : p < s.size) (hd : del s[p] = false) : wend s (p + 1) = wend s p := by
  unfold wend; rw [drop_at s p h]; simp [hd]; omega
theorem wend_ge (s : ByteArray) (p : Nat) : p ≤ wend s p := Nat.le_add_right _ _
theorem wend_le (s : ByteArray) (p : Nat) (h : p ≤ s.size) : wend s p ≤ s.size := by
  unfold wend
  have h1 : ((s.data.toList.drop p).takeWhile fun c => !del c).length ≤ (s.data.toList.drop p).length := (List.takeWhile_sublist _).length_le
  have h2 : (s.data.toList.drop p).length = s.size - p := by rw [List.length_drop]; rfl
  omega

def peekV (s : ByteArray) (p : Nat) (c : Int) : Bool := if h : p < s.size then ((s[p].toNat : Int) == c) else false

set_option maxRecDepth 100000 in
set_option maxHeartbeats 1600000 in
theorem peek_any (w : World) (g : Nat) (s : ByteArray) (p : Nat) (c : Int) (hb : Blk w g 180 #[.string s, .int .i64 p]) (_hs : s.size ≤ maxLen) :
    Calls Tryz.prog 168 #[.pointer (some ⟨g, 0, none⟩), .int .u8 c] w fun e w' => e = .returned (.bool (peekV s p c)) ∧ ∃ n, w' = w.drewN n := by
  unfold maxLen at _hs
  have k0 := hb.cell 0
  have k1 := hb.cell 1
  simp at k0 k1
  clear hb
  by_cases hlt : p < s.size
  · have hlt' : (p : Int) < s.size := by omega
    have HV := hide (show peekV s p c = ((s[p].toNat : Int) == c) by unfold peekV; rw [dif_pos hlt])
    have hd : decide (p < s.size) = true := decide_eq_true hlt
    go_enter Tryz.func168, Tryz.ntmps168
    go_wp2_with fail
    go_quiet (fail)
    go_wp2_with fail
    go_ret
    exact ⟨(by rw [HV.out]; rfl), _, rfl⟩
  · have hlt' : ¬ (p : Int) < s.size := by omega
    have HV := hide (show peekV s p c = false by unfold peekV; rw [dif_neg hlt])
    have hd : decide (p < s.size) = false := decide_eq_false hlt
    go_enter Tryz.func168, Tryz.ntmps168
    go_wp2_with fail
    go_quiet (fail)
    go_wp2_with fail
    go_ret
    exact ⟨(by rw [HV.out]; rfl), _, rfl⟩

/-- The ending of a reader that meets no term. -/
def Fault (S : List Nat) (w : World) (e : Ending) (w' : World) : Prop := e = .panicked [{ v := .iface 183 (.agg #[]), recovered := false }] ∧ Only S w w'
/-- The reader stands at p. -/
def At (g : Nat) (s : ByteArray) (p : Nat) (w : World) : Prop := Blk w g 180 #[.string s, .int .i64 p]
def TakePost (g : Nat) (s : ByteArray) (p : Nat) (ok : Bool) (w : World) (e : Ending) (w' : World) : Prop :=
  if ok = true then e = .returned (.tuple #[]) ∧ At g s (p + 1) w' ∧ Only [g] w w' else Fault [g] w e w'

theorem take_no {g : Nat} {s : ByteArray} {p : Nat} {ok : Bool} {w w' : World} (h : ok = false) (ho : Only [g] w w') : TakePost g s p ok w (.panicked [{ v := .iface 183 (.agg #[]), recovered := false }]) w' := by
  subst h; exact ⟨rfl, ho⟩
theorem take_yes {g : Nat} {s : ByteArray} {p : Nat} {ok : Bool} {w w' : World} (h : ok = true) (hb : At g s (p + 1) w') (ho : Only [g] w w') : TakePost g s p ok w (.returned (.tuple #[])) w' := by
  subst h; exact ⟨rfl, hb, ho⟩
set_option maxRecDepth 100000 in
set_option maxHeartbeats 1600000 in
theorem take_any (w : World) (g : Nat) (s : ByteArray) (p : Nat) (c : Int) (hb : At g s p w) (hs : s.size ≤ maxLen) :
    Calls Tryz.prog 147 #[.pointer (some ⟨g, 0, none⟩), .int .u8 c] w (TakePost g s p (peekV s p c) w) := by
  unfold maxLen at hs
  have HB := hide hb
  have HO := hide (Only.refl [g] w)
  have k0 := hb.cell 0
  have k1 := hb.cell 1
  have f1 := hb.frozen 1
  simp at k0 k1
  clear hb
  by_cases hlt : p < s.size
  · have hlt' : ¬ (s.size : Int) ≤ p := by omega
    have hd : decide (s.size ≤ p) = false := decide_eq_false (by omega)
    cases hc : ((s[p].toNat : Int) == c) with
    | true =>
      have HV := hide (show peekV s p c = true by unfold peekV; rw [dif_pos hlt]; exact hc)
      have hn : ((s[p].toNat : Int) != c) = false := by simpa [bne] using hc
      go_enter Tryz.func147, Tryz.ntmps147
      go_wp2_with fail
      go_quiet (fail)
      go_wp2_with fail
      go_end0
      exact take_yes HV.out ((HB.out.drewN _).set_ 1 _) ((HO.out.drewN _).setCell (p := ⟨g, 1, none⟩) (.inl (by simp)) _)
    | false =>
      have HV := hide (show peekV s p c = false by unfold peekV; rw [dif_pos hlt]; exact hc)
      have hn : ((s[p].toNat : Int) != c) = true := by simpa [bne] using hc
      go_enter Tryz.func147, Tryz.ntmps147
      go_wp2_with fail
      go_quiet (fail)
      go_wp2_with fail
      exact ⟨rfl, take_no HV.out (HO.out.drewN _)⟩
  · have hlt' : (s.size : Int) ≤ p := by omega
    have hd : decide (s.size ≤ p) = true := decide_eq_true (by omega)
    have HV := hide (show peekV s p c = false by unfold peekV; rw [dif_neg hlt])
    go_enter Tryz.func147, Tryz.ntmps147
    go_wp2_with fail
    go_quiet (fail)
    go_wp2_with fail
    exact ⟨rfl, take_no HV.out (HO.out.drewN _)⟩
end
section
open Go.RowKit Go.Deep

def WordPost (g : Nat) (s : ByteArray) (p : Nat) (w : World) (e : Ending) (w' : World) : Prop :=
  e = .returned (.string (s.extract p (wend s p))) ∧ At g s (wend s p) w' ∧ Only [g] w w'

theorem byte_lt (c : UInt8) : c.toNat < 256 := c.toNat_lt
theorem ne_of_nat {c : UInt8} {n : Nat} (h : (c == UInt8.ofNat n) = false) (hn : n < 256) : ((c.toNat : Int) != n) = true := by
  have h1 : c.toNat ≠ n := by
    intro e
    subst e
    simp at h
  simp only [bne_iff_ne, ne_eq]
  omega
theorem del_false {c : UInt8} (h : del c = false) : ((c.toNat : Int) != 44) = true ∧ ((c.toNat : Int) != 41) = true ∧ ((c.toNat : Int) != 40) = true := by
  unfold del at h
  simp only [Bool.or_eq_false_iff] at h
  exact ⟨ne_of_nat (n := 44) h.1.1 (by decide), ne_of_nat (n := 41) h.1.2 (by decide), ne_of_nat (n := 40) h.2 (by decide)⟩
theorem del_true {c : UInt8} (h : del c = true) : ((c.toNat : Int) != 44) = false ∨ (((c.toNat : Int) != 44) = true ∧ ((c.toNat : Int) != 41) = false) ∨
    (((c.toNat : Int) != 44) = true ∧ ((c.toNat : Int) != 41) = true ∧ ((c.toNat : Int) != 40) = false) := by
  unfold del at h
  simp only [Bool.or_eq_true, beq_iff_eq] at h
  rcases h with (h | h) | h
  · subst h; exact .inl rfl
  · subst h; exact .inr (.inl ⟨rfl, rfl⟩)
  · subst h; exact .inr (.inr ⟨rfl, rfl, rfl⟩)
theorem word_end {g : Nat} {s : ByteArray} {p j : Nat} {w w' : World} (h : wend s p = j) (hb : At g s j w') (ho : Only [g] w w') : WordPost g s p w (.returned (.string (s.extract p j))) w' := by
  subst h; exact ⟨rfl, hb, ho⟩

set_option maxRecDepth 100000 in
set_option maxHeartbeats 3200000 in
theorem word_any (w : World) (g : Nat) (s : ByteArray) (p : Nat) (hb : At g s p w) (hp : p ≤ s.size) (hs : s.size ≤ maxLen) :
    Calls Tryz.prog 146 #[.pointer (some ⟨g, 0, none⟩)] w (WordPost g s p w) := by
  unfold maxLen at hs
  have HB := hide hb
  have k0 := hb.cell 0
  have k1 := hb.cell 1
  simp at k0 k1
  clear hb
  go_enter Tryz.func146, Tryz.ntmps146
  go_wp2_with fail
  clear k0 k1
  go_loopg [] (s.size - p) (fun gk wr => ∃ j : Nat, p ≤ j ∧ j ≤ s.size ∧ gk + j = s.size ∧ Hid (wend s j = wend s p) ∧ Hid (At g s j wr) ∧ Hid (Only [g] w wr))
  case atStart => exact ⟨p, Nat.le_refl _, hp, by omega, hide rfl, HB, hide (Only.refl _ _)⟩
  case round =>
    obtain ⟨j, hpj, hj, hgk, hw, HA, HO⟩ := hrel
    have k0 := HA.out.cell 0
    have k1 := HA.out.cell 1
    have f1 := HA.out.frozen 1
    simp at k0 k1
    have HG := hide hgk
    clear hgk
    by_cases hlt : j < s.size
    · have hlt' : (j : Int) < s.size := by omega
      have hd : decide (j < s.size) = true := decide_eq_true hlt
      cases hc : del s[j] with
      | false =>
        have HS := hide (wend_step s j hlt hc)
        obtain ⟨h1, h2, h3⟩ := del_false hc
        clear hc
        go_wp2_with fail
        go_quiet (fail)
        go_wp2_with fail
        go_roundg (gk - 1)
        case rel => exact ⟨j + 1, by omega, by omega, by have := HG.out; omega, hide (HS.out.trans hw.out), hide (HA.out.drewN _ |>.set_ 1 _), hide ((HO.out.drewN _).setCell (p := ⟨g, 1, none⟩) (.inl (by simp)) _)⟩
        case measure => have := HG.out; omega
      | true =>
        have HS := hide ((wend_stop s j hlt hc).symm.trans hw.out).symm
        rcases del_true hc with h1 | ⟨h1, h2⟩ | ⟨h1, h2, h3⟩
        all_goals
          clear hc
          go_wp2_with fail
          go_quiet (fail)
          go_wp2_with fail
          go_quiet (fail)
          go_wp2_with fail
          go_ret
          exact word_end HS.out ((HA.out.drewN _).drewN _) ((HO.out.drewN _).drewN _)
    · have hlt' : ¬ (j : Int) < s.size := by omega
      have hd : decide (j < s.size) = false := decide_eq_false hlt
      have HS := hide ((wend_end s j (by omega)).symm.trans hw.out).symm
      go_wp2_with fail
      go_quiet (fail)
      go_wp2_with fail
      go_quiet (fail)
      go_wp2_with fail
      go_ret
      exact word_end HS.out ((HA.out.drewN _).drewN _) ((HO.out.drewN _).drewN _)
end
end Go.Proofs.YtfipdjlalfpbnaaGreatDoor

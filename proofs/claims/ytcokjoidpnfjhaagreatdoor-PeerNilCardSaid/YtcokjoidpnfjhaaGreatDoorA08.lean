/-
  Walks and plain words (texts Wb, Wc, Kz, Wd, We, Wf, Wi0, Msg, Wj0, Wk, Wl0). No condition beyond those that each theorem states.
-/
import Derived.Deep.RegionHeld3
import Derived.Test.YtcokjoidpnfjhaaGreatDoorChecked
import Derived.Laws.StructEq
import Derived.Lib.AppendStr
import Derived.Test.YtcokjoidpnfjhaaGreatDoorA07
namespace Go.Proofs.YtcokjoidpnfjhaaGreatDoor
section
open Go.RowKit Go.Deep

def txtC (f : FuncId) : List Value := [.int .i64 0, .nilFunc, .nilFunc, fnV f]
def cntC : List Value := [.int .i64 8, fnV 217, fnV 218, .nilFunc]
def row1C (b1 _b2 : Nat) : List Value := numC b1 ++ txtC 209 ++ txtC 212 ++ txtC 213 ++ txtC 210 ++ txtC 211
def row2C (b1 b2 : Nat) : List Value := numC b1 ++ numC b2 ++ txtC 209 ++ txtC 214 ++ txtC 210 ++ txtC 211
def row3C (_b1 b2 : Nat) : List Value := numC b2 ++ txtC 215 ++ txtC 216
def row4C (_b1 b2 : Nat) : List Value := numC b2 ++ cntC ++ txtC 219
theorem blk_new' {w : World} {g : Nat} {t : TypeId} {cs : Array Value} (h : g = w.heap.size) : Blk (w.alloc (.cells cs t)) g t cs := h ▸ Blk.new w t cs
/-- What row hands back: a row of fields in a block of its own; the two closures' places. -/
def RowPost (n : Nat) (C : Nat → Nat → List Value) (w : World) (e : Ending) (w' : World) : Prop :=
  ∃ g b1 b2, e = .returned (.slice (some ⟨g, 0, none⟩) n n) ∧ w.heap.size ≤ g ∧ w.heap.size ≤ b1 ∧ w.heap.size ≤ b2 ∧ Blk w' g 230 (C b1 b2).toArray ∧
    Blk w' b1 308 #[fnV 207] ∧ Blk w' b2 308 #[fnV 208] ∧ Only [] w w'
theorem rowpost {n : Nat} {C : Nat → Nat → List Value} {w w' : World} {g b1 b2 : Nat} (h1 : w.heap.size ≤ g) (h2 : w.heap.size ≤ b1) (h3 : w.heap.size ≤ b2) (h4 : Blk w' g 230 (C b1 b2).toArray)
    (h5 : Blk w' b1 308 #[fnV 207]) (h6 : Blk w' b2 308 #[fnV 208]) (h7 : Only [] w w') : RowPost n C w (.returned (.slice (some ⟨g, 0, none⟩) n n)) w' :=
  ⟨g, b1, b2, rfl, h1, h2, h3, h4, h5, h6, h7⟩

set_option maxRecDepth 100000 in
set_option maxHeartbeats 3200000 in
theorem row_1 (w : World) : Calls Tryz.prog 174 #[.int .i64 1] w (RowPost 6 row1C w) := by
  have hst := fun (W : World) (a : Addr) (fn : Fn) (c : Array Value) => (run_store Tryz.prog W a (.func fn #[] c) .plain rfl : (store a (.func fn #[] c)).run Tryz.prog W = stored Tryz.prog W a (.func fn #[] c) .plain)
  have hsn := fun (W : World) (a : Addr) => (run_store Tryz.prog W a .nilFunc .plain rfl : (store a .nilFunc).run Tryz.prog W = stored Tryz.prog W a .nilFunc .plain)
  go_enter Tryz.func174, Tryz.ntmps174
  go_upto_region 10 with (go_at_call 206; refine (wnumber_any _ _).mono ?_; (first
    | (rintro e w1 ⟨rfl, hb1, hs1, ho1⟩; have HS0 : Hid (Blk w1 w.heap.size _ #[fnV 207]) := hide hb1; have HZ := hide hs1; have HF := hide (Blk.new w1 230 (numC w.heap.size).toArray); have HS := hide (HS0.out.alloc (.cells (numC w.heap.size).toArray 230)); have HO := hide (ho1.alloc (.cells (numC w.heap.size).toArray 230)); clear hb1 hs1 ho1)
    | (rintro e w2 ⟨rfl, hb1, hs1, ho1⟩; rw [World.size_alloc] at hb1 hs1; have HR : Hid (Blk w2 (w1.heap.size + 1) _ #[fnV 208]) := hide hb1; have HZ2 := hide hs1; have HS := hide (HS.out.only ho1 (by simp)); have HF := hide (HF.out.only ho1 (by simp)); have HO := hide (HO.out.trans ho1); clear hb1 hs1 ho1)))
  generalize hW : ((((((w2.alloc (.cells #[.int .i64 4, .func (.func 238) #[] #[.pointer (some ⟨w1.heap.size + 1, 0, none⟩)], .func (.func 239) #[] #[.pointer (some ⟨w1.heap.size + 1, 0, none⟩)], .nilFunc] 230)).alloc (.cells #[.int .i64 0, .nilFunc, .nilFunc, .func (.func 209) #[] #[]] 230)).alloc (.cells #[.int .i64 0, .nilFunc, .nilFunc, .func (.func 210) #[] #[]] 230)).alloc (.cells #[.int .i64 0, .nilFunc, .nilFunc, .func (.func 211) #[] #[]] 230)).alloc (.cells #[.int .i64 0, .nilFunc, .nilFunc, .func (.func 212) #[] #[]] 230)).alloc (.cells #[.int .i64 0, .nilFunc, .nilFunc, .func (.func 213) #[] #[]] 230)) = wq at *
  have HW := hide hW
  clear hW
  have HS := hide (show Blk wq w.heap.size _ #[fnV 207] from by rw [← HW.out]; repeat (first | exact HS.out | apply Blk.alloc))
  have HR := hide (show Blk wq (w1.heap.size + 1) _ #[fnV 208] from by rw [← HW.out]; repeat (first | exact HR.out | apply Blk.alloc))
  have HO := hide (show Only [] w wq from by rw [← HW.out]; repeat (first | exact HO.out | apply Only.alloc))
  have HF := hide (show Blk wq w1.heap.size 230 (numC w.heap.size).toArray from by rw [← HW.out]; repeat (first | exact HF.out | apply Blk.alloc))
  have s0 := HF.out.cell 0; have s1 := HF.out.cell 1; have s2 := HF.out.cell 2; have s3 := HF.out.cell 3
  simp [numC] at s0 s1 s2 s3
  have hb : Blk wq (w2.heap.size + 1) 230 #[.int .i64 0, .nilFunc, .nilFunc, .func (.func 209) #[] #[]] := by rw [← HW.out]; repeat (first | exact blk_new' (by simp) | apply Blk.alloc)
  have t10 := hb.cell 0; have t11 := hb.cell 1; have t12 := hb.cell 2; have t13 := hb.cell 3
  clear hb
  simp at t10 t11 t12 t13
  have hb : Blk wq (w2.heap.size + 1 + 1) 230 #[.int .i64 0, .nilFunc, .nilFunc, .func (.func 210) #[] #[]] := by rw [← HW.out]; repeat (first | exact blk_new' (by simp) | apply Blk.alloc)
  have t20 := hb.cell 0; have t21 := hb.cell 1; have t22 := hb.cell 2; have t23 := hb.cell 3
  clear hb
  simp at t20 t21 t22 t23
  have hb : Blk wq (w2.heap.size + 1 + 1 + 1) 230 #[.int .i64 0, .nilFunc, .nilFunc, .func (.func 211) #[] #[]] := by rw [← HW.out]; repeat (first | exact blk_new' (by simp) | apply Blk.alloc)
  have t30 := hb.cell 0; have t31 := hb.cell 1; have t32 := hb.cell 2; have t33 := hb.cell 3
  clear hb
  simp at t30 t31 t32 t33
  have hb : Blk wq (w2.heap.size + 1 + 1 + 1 + 1) 230 #[.int .i64 0, .nilFunc, .nilFunc, .func (.func 212) #[] #[]] := by rw [← HW.out]; repeat (first | exact blk_new' (by simp) | apply Blk.alloc)
  have t40 := hb.cell 0; have t41 := hb.cell 1; have t42 := hb.cell 2; have t43 := hb.cell 3
  clear hb
  simp at t40 t41 t42 t43
  have hb : Blk wq (w2.heap.size + 1 + 1 + 1 + 1 + 1) 230 #[.int .i64 0, .nilFunc, .nilFunc, .func (.func 213) #[] #[]] := by rw [← HW.out]; repeat (first | exact blk_new' (by simp) | apply Blk.alloc)
  have t50 := hb.cell 0; have t51 := hb.cell 1; have t52 := hb.cell 2; have t53 := hb.cell 3
  clear hb
  simp at t50 t51 t52 t53
  clear HW hst hsn
  go_wp2_with fail
  go_ret
  exact rowpost (b1 := w.heap.size) (b2 := w1.heap.size + 1) (by have := HO.out.size; omega) (Nat.le_refl _) (by have := HZ.out; omega) (blk_new' (by simp)) (HS.out.alloc _) (HR.out.alloc _) (HO.out.alloc _)

set_option maxRecDepth 100000 in
set_option maxHeartbeats 3200000 in
theorem row_2 (w : World) : Calls Tryz.prog 174 #[.int .i64 2] w (RowPost 6 row2C w) := by
  have hst := fun (W : World) (a : Addr) (fn : Fn) (c : Array Value) => (run_store Tryz.prog W a (.func fn #[] c) .plain rfl : (store a (.func fn #[] c)).run Tryz.prog W = stored Tryz.prog W a (.func fn #[] c) .plain)
  have hsn := fun (W : World) (a : Addr) => (run_store Tryz.prog W a .nilFunc .plain rfl : (store a .nilFunc).run Tryz.prog W = stored Tryz.prog W a .nilFunc .plain)
  go_enter Tryz.func174, Tryz.ntmps174
  go_upto_region 13 with (go_at_call 206; refine (wnumber_any _ _).mono ?_; (first
    | (rintro e w1 ⟨rfl, hb1, hs1, ho1⟩; have HS0 : Hid (Blk w1 w.heap.size _ #[fnV 207]) := hide hb1; have HZ := hide hs1; have HF := hide (Blk.new w1 230 (numC w.heap.size).toArray); have HS := hide (HS0.out.alloc (.cells (numC w.heap.size).toArray 230)); have HO := hide (ho1.alloc (.cells (numC w.heap.size).toArray 230)); clear hb1 hs1 ho1)
    | (rintro e w2 ⟨rfl, hb1, hs1, ho1⟩; rw [World.size_alloc] at hb1 hs1; have HR : Hid (Blk w2 (w1.heap.size + 1) _ #[fnV 208]) := hide hb1; have HZ2 := hide hs1; have HS := hide (HS.out.only ho1 (by simp)); have HF := hide (HF.out.only ho1 (by simp)); have HO := hide (HO.out.trans ho1); clear hb1 hs1 ho1)))
  generalize hW : (((((w2.alloc (.cells #[.int .i64 4, .func (.func 238) #[] #[.pointer (some ⟨w1.heap.size + 1, 0, none⟩)], .func (.func 239) #[] #[.pointer (some ⟨w1.heap.size + 1, 0, none⟩)], .nilFunc] 230)).alloc (.cells #[.int .i64 0, .nilFunc, .nilFunc, .func (.func 209) #[] #[]] 230)).alloc (.cells #[.int .i64 0, .nilFunc, .nilFunc, .func (.func 210) #[] #[]] 230)).alloc (.cells #[.int .i64 0, .nilFunc, .nilFunc, .func (.func 211) #[] #[]] 230)).alloc (.cells #[.int .i64 0, .nilFunc, .nilFunc, .func (.func 214) #[] #[]] 230)) = wq at *
  have HW := hide hW
  clear hW
  have HS := hide (show Blk wq w.heap.size _ #[fnV 207] from by rw [← HW.out]; repeat (first | exact HS.out | apply Blk.alloc))
  have HR := hide (show Blk wq (w1.heap.size + 1) _ #[fnV 208] from by rw [← HW.out]; repeat (first | exact HR.out | apply Blk.alloc))
  have HO := hide (show Only [] w wq from by rw [← HW.out]; repeat (first | exact HO.out | apply Only.alloc))
  have HF := hide (show Blk wq w1.heap.size 230 (numC w.heap.size).toArray from by rw [← HW.out]; repeat (first | exact HF.out | apply Blk.alloc))
  have s0 := HF.out.cell 0; have s1 := HF.out.cell 1; have s2 := HF.out.cell 2; have s3 := HF.out.cell 3
  simp [numC] at s0 s1 s2 s3
  have hb : Blk wq (w2.heap.size) 230 #[.int .i64 4, .func (.func 238) #[] #[.pointer (some ⟨w1.heap.size + 1, 0, none⟩)], .func (.func 239) #[] #[.pointer (some ⟨w1.heap.size + 1, 0, none⟩)], .nilFunc] := by rw [← HW.out]; repeat (first | exact blk_new' (by simp) | apply Blk.alloc)
  have t00 := hb.cell 0; have t01 := hb.cell 1; have t02 := hb.cell 2; have t03 := hb.cell 3
  clear hb
  simp at t00 t01 t02 t03
  have hb : Blk wq (w2.heap.size + 1) 230 #[.int .i64 0, .nilFunc, .nilFunc, .func (.func 209) #[] #[]] := by rw [← HW.out]; repeat (first | exact blk_new' (by simp) | apply Blk.alloc)
  have t10 := hb.cell 0; have t11 := hb.cell 1; have t12 := hb.cell 2; have t13 := hb.cell 3
  clear hb
  simp at t10 t11 t12 t13
  have hb : Blk wq (w2.heap.size + 1 + 1) 230 #[.int .i64 0, .nilFunc, .nilFunc, .func (.func 210) #[] #[]] := by rw [← HW.out]; repeat (first | exact blk_new' (by simp) | apply Blk.alloc)
  have t20 := hb.cell 0; have t21 := hb.cell 1; have t22 := hb.cell 2; have t23 := hb.cell 3
  clear hb
  simp at t20 t21 t22 t23
  have hb : Blk wq (w2.heap.size + 1 + 1 + 1) 230 #[.int .i64 0, .nilFunc, .nilFunc, .func (.func 211) #[] #[]] := by rw [← HW.out]; repeat (first | exact blk_new' (by simp) | apply Blk.alloc)
  have t30 := hb.cell 0; have t31 := hb.cell 1; have t32 := hb.cell 2; have t33 := hb.cell 3
  clear hb
  simp at t30 t31 t32 t33
  have hb : Blk wq (w2.heap.size + 1 + 1 + 1 + 1) 230 #[.int .i64 0, .nilFunc, .nilFunc, .func (.func 214) #[] #[]] := by rw [← HW.out]; repeat (first | exact blk_new' (by simp) | apply Blk.alloc)
  have t40 := hb.cell 0; have t41 := hb.cell 1; have t42 := hb.cell 2; have t43 := hb.cell 3
  clear hb
  simp at t40 t41 t42 t43
  clear HW hst hsn
  go_wp2_with fail
  go_ret
  exact rowpost (b1 := w.heap.size) (b2 := w1.heap.size + 1) (by have := HO.out.size; omega) (Nat.le_refl _) (by have := HZ.out; omega) (blk_new' (by simp)) (HS.out.alloc _) (HR.out.alloc _) (HO.out.alloc _)

set_option maxRecDepth 100000 in
set_option maxHeartbeats 3200000 in
theorem row_3 (w : World) : Calls Tryz.prog 174 #[.int .i64 3] w (RowPost 3 row3C w) := by
  have hst := fun (W : World) (a : Addr) (fn : Fn) (c : Array Value) => (run_store Tryz.prog W a (.func fn #[] c) .plain rfl : (store a (.func fn #[] c)).run Tryz.prog W = stored Tryz.prog W a (.func fn #[] c) .plain)
  have hsn := fun (W : World) (a : Addr) => (run_store Tryz.prog W a .nilFunc .plain rfl : (store a .nilFunc).run Tryz.prog W = stored Tryz.prog W a .nilFunc .plain)
  go_enter Tryz.func174, Tryz.ntmps174
  go_upto_region 17 with (go_at_call 206; refine (wnumber_any _ _).mono ?_; (first
    | (rintro e w1 ⟨rfl, hb1, hs1, ho1⟩; have HS0 : Hid (Blk w1 w.heap.size _ #[fnV 207]) := hide hb1; have HZ := hide hs1; have HF := hide (Blk.new w1 230 (numC w.heap.size).toArray); have HS := hide (HS0.out.alloc (.cells (numC w.heap.size).toArray 230)); have HO := hide (ho1.alloc (.cells (numC w.heap.size).toArray 230)); clear hb1 hs1 ho1)
    | (rintro e w2 ⟨rfl, hb1, hs1, ho1⟩; rw [World.size_alloc] at hb1 hs1; have HR : Hid (Blk w2 (w1.heap.size + 1) _ #[fnV 208]) := hide hb1; have HZ2 := hide hs1; have HS := hide (HS.out.only ho1 (by simp)); have HF := hide (HF.out.only ho1 (by simp)); have HO := hide (HO.out.trans ho1); clear hb1 hs1 ho1)))
  generalize hW : ((((((w2.alloc (.cells #[.int .i64 4, .func (.func 238) #[] #[.pointer (some ⟨w1.heap.size + 1, 0, none⟩)], .func (.func 239) #[] #[.pointer (some ⟨w1.heap.size + 1, 0, none⟩)], .nilFunc] 230)).alloc (.cells #[.int .i64 0, .nilFunc, .nilFunc, .func (.func 209) #[] #[]] 230)).alloc (.cells #[.int .i64 0, .nilFunc, .nilFunc, .func (.func 210) #[] #[]] 230)).alloc (.cells #[.int .i64 0, .nilFunc, .nilFunc, .func (.func 211) #[] #[]] 230)).alloc (.cells #[.int .i64 0, .nilFunc, .nilFunc, .func (.func 215) #[] #[]] 230)).alloc (.cells #[.int .i64 0, .nilFunc, .nilFunc, .func (.func 216) #[] #[]] 230)) = wq at *
  have HW := hide hW
  clear hW
  have HS := hide (show Blk wq w.heap.size _ #[fnV 207] from by rw [← HW.out]; repeat (first | exact HS.out | apply Blk.alloc))
  have HR := hide (show Blk wq (w1.heap.size + 1) _ #[fnV 208] from by rw [← HW.out]; repeat (first | exact HR.out | apply Blk.alloc))
  have HO := hide (show Only [] w wq from by rw [← HW.out]; repeat (first | exact HO.out | apply Only.alloc))
  have HF := hide (show Blk wq w1.heap.size 230 (numC w.heap.size).toArray from by rw [← HW.out]; repeat (first | exact HF.out | apply Blk.alloc))
  have hb : Blk wq (w2.heap.size) 230 #[.int .i64 4, .func (.func 238) #[] #[.pointer (some ⟨w1.heap.size + 1, 0, none⟩)], .func (.func 239) #[] #[.pointer (some ⟨w1.heap.size + 1, 0, none⟩)], .nilFunc] := by rw [← HW.out]; repeat (first | exact blk_new' (by simp) | apply Blk.alloc)
  have t00 := hb.cell 0; have t01 := hb.cell 1; have t02 := hb.cell 2; have t03 := hb.cell 3
  clear hb
  simp at t00 t01 t02 t03
  have hb : Blk wq (w2.heap.size + 1 + 1 + 1 + 1) 230 #[.int .i64 0, .nilFunc, .nilFunc, .func (.func 215) #[] #[]] := by rw [← HW.out]; repeat (first | exact blk_new' (by simp) | apply Blk.alloc)
  have t40 := hb.cell 0; have t41 := hb.cell 1; have t42 := hb.cell 2; have t43 := hb.cell 3
  clear hb
  simp at t40 t41 t42 t43
  have hb : Blk wq (w2.heap.size + 1 + 1 + 1 + 1 + 1) 230 #[.int .i64 0, .nilFunc, .nilFunc, .func (.func 216) #[] #[]] := by rw [← HW.out]; repeat (first | exact blk_new' (by simp) | apply Blk.alloc)
  have t50 := hb.cell 0; have t51 := hb.cell 1; have t52 := hb.cell 2; have t53 := hb.cell 3
  clear hb
  simp at t50 t51 t52 t53
  clear HW hst hsn
  go_wp2_with fail
  go_ret
  exact rowpost (b1 := w.heap.size) (b2 := w1.heap.size + 1) (by have := HO.out.size; omega) (Nat.le_refl _) (by have := HZ.out; omega) (blk_new' (by simp)) (HS.out.alloc _) (HR.out.alloc _) (HO.out.alloc _)

set_option maxRecDepth 100000 in
set_option maxHeartbeats 3200000 in
theorem row_4 (w : World) : Calls Tryz.prog 174 #[.int .i64 4] w (RowPost 3 row4C w) := by
  have hst := fun (W : World) (a : Addr) (fn : Fn) (c : Array Value) => (run_store Tryz.prog W a (.func fn #[] c) .plain rfl : (store a (.func fn #[] c)).run Tryz.prog W = stored Tryz.prog W a (.func fn #[] c) .plain)
  have hsn := fun (W : World) (a : Addr) => (run_store Tryz.prog W a .nilFunc .plain rfl : (store a .nilFunc).run Tryz.prog W = stored Tryz.prog W a .nilFunc .plain)
  go_enter Tryz.func174, Tryz.ntmps174
  go_upto_region 21 with (go_at_call 206; refine (wnumber_any _ _).mono ?_; (first
    | (rintro e w1 ⟨rfl, hb1, hs1, ho1⟩; have HS0 : Hid (Blk w1 w.heap.size _ #[fnV 207]) := hide hb1; have HZ := hide hs1; have HF := hide (Blk.new w1 230 (numC w.heap.size).toArray); have HS := hide (HS0.out.alloc (.cells (numC w.heap.size).toArray 230)); have HO := hide (ho1.alloc (.cells (numC w.heap.size).toArray 230)); clear hb1 hs1 ho1)
    | (rintro e w2 ⟨rfl, hb1, hs1, ho1⟩; rw [World.size_alloc] at hb1 hs1; have HR : Hid (Blk w2 (w1.heap.size + 1) _ #[fnV 208]) := hide hb1; have HZ2 := hide hs1; have HS := hide (HS.out.only ho1 (by simp)); have HF := hide (HF.out.only ho1 (by simp)); have HO := hide (HO.out.trans ho1); clear hb1 hs1 ho1)))
  generalize hW : ((((((w2.alloc (.cells #[.int .i64 4, .func (.func 238) #[] #[.pointer (some ⟨w1.heap.size + 1, 0, none⟩)], .func (.func 239) #[] #[.pointer (some ⟨w1.heap.size + 1, 0, none⟩)], .nilFunc] 230)).alloc (.cells #[.int .i64 0, .nilFunc, .nilFunc, .func (.func 209) #[] #[]] 230)).alloc (.cells #[.int .i64 0, .nilFunc, .nilFunc, .func (.func 210) #[] #[]] 230)).alloc (.cells #[.int .i64 0, .nilFunc, .nilFunc, .func (.func 211) #[] #[]] 230)).alloc (.cells #[.int .i64 8, .func (.func 217) #[] #[], .func (.func 218) #[] #[], .nilFunc] 230)).alloc (.cells #[.int .i64 0, .nilFunc, .nilFunc, .func (.func 219) #[] #[]] 230)) = wq at *
  have HW := hide hW
  clear hW
  have HS := hide (show Blk wq w.heap.size _ #[fnV 207] from by rw [← HW.out]; repeat (first | exact HS.out | apply Blk.alloc))
  have HR := hide (show Blk wq (w1.heap.size + 1) _ #[fnV 208] from by rw [← HW.out]; repeat (first | exact HR.out | apply Blk.alloc))
  have HO := hide (show Only [] w wq from by rw [← HW.out]; repeat (first | exact HO.out | apply Only.alloc))
  have HF := hide (show Blk wq w1.heap.size 230 (numC w.heap.size).toArray from by rw [← HW.out]; repeat (first | exact HF.out | apply Blk.alloc))
  have hb : Blk wq (w2.heap.size) 230 #[.int .i64 4, .func (.func 238) #[] #[.pointer (some ⟨w1.heap.size + 1, 0, none⟩)], .func (.func 239) #[] #[.pointer (some ⟨w1.heap.size + 1, 0, none⟩)], .nilFunc] := by rw [← HW.out]; repeat (first | exact blk_new' (by simp) | apply Blk.alloc)
  have t00 := hb.cell 0; have t01 := hb.cell 1; have t02 := hb.cell 2; have t03 := hb.cell 3
  clear hb
  simp at t00 t01 t02 t03
  have hb : Blk wq (w2.heap.size + 1 + 1 + 1 + 1) 230 #[.int .i64 8, .func (.func 217) #[] #[], .func (.func 218) #[] #[], .nilFunc] := by rw [← HW.out]; repeat (first | exact blk_new' (by simp) | apply Blk.alloc)
  have t40 := hb.cell 0; have t41 := hb.cell 1; have t42 := hb.cell 2; have t43 := hb.cell 3
  clear hb
  simp at t40 t41 t42 t43
  have hb : Blk wq (w2.heap.size + 1 + 1 + 1 + 1 + 1) 230 #[.int .i64 0, .nilFunc, .nilFunc, .func (.func 219) #[] #[]] := by rw [← HW.out]; repeat (first | exact blk_new' (by simp) | apply Blk.alloc)
  have t50 := hb.cell 0; have t51 := hb.cell 1; have t52 := hb.cell 2; have t53 := hb.cell 3
  clear hb
  simp at t50 t51 t52 t53
  clear HW hst hsn
  go_wp2_with fail
  go_ret
  exact rowpost (b1 := w.heap.size) (b2 := w1.heap.size + 1) (by have := HO.out.size; omega) (Nat.le_refl _) (by have := HZ.out; omega) (blk_new' (by simp)) (HS.out.alloc _) (HR.out.alloc _) (HO.out.alloc _)
end
section
open Go.RowKit Go.Deep

/-- A reader's block g: what is left reads as l. -/
def RdrAt (w : World) (N : List Nat) (g : Nat) (l : List UInt8) : Prop :=
  ∃ G O cap, Blk w g 268 #[.slice (some ⟨G, O, none⟩) l.length cap] ∧ Rd w (g :: N) (.slice (some ⟨G, O, none⟩) l.length cap) (ints .u8 (byts l))
theorem RdrAt.only {w w' : World} {N S : List Nat} {g : Nat} {l : List UInt8} (h : RdrAt w N g l) (ho : Only S w w') (hg : g ∉ S) (hS : ∀ x ∈ S, x ∈ N) : RdrAt w' N g l := by
  obtain ⟨G, O, cap, hb, hr⟩ := h
  exact ⟨G, O, cap, hb.only ho hg, hr.only ho (fun x hx => List.mem_cons_of_mem _ (hS x hx))⟩
end
section
open Go.RowKit Go.Deep

theorem kindV_pos {c : Int} (h : kindV c ≠ 0) : 1 ≤ kindV c := by
  unfold kindV at h ⊢
  repeat' split
  all_goals first
    | omega
    | (simp_all; done)
theorem end_kind {s : ByteArray} {k : Int} {n : Nat} {l : List ByteArray} {p q : Nat} {nd : Nd} (hk : 1 ≤ k) (h : rdEnd s k n l p = some (nd, q)) : 1 ≤ nd.1 := by
  unfold rdEnd at h
  by_cases h1 : peekV s p 41 = true
  · rw [if_pos h1] at h
    by_cases h2 : fitsV k l.length = true
    · rw [if_pos h2] at h
      obtain ⟨e, _⟩ := Prod.mk.inj (Option.some.inj h)
      subst e
      exact hk
    · rw [if_neg h2] at h; cases h
  · rw [if_neg h1] at h; cases h
theorem leaf_kind {k : Int} {n q q' : Nat} {b : List UInt8} {l : List ByteArray} {nd : Nd} (hk : 1 ≤ k) (h : some (((k, n, b, l) : Nd), q') = some (nd, q)) : 1 ≤ nd.1 := by
  obtain ⟨e, _⟩ := Prod.mk.inj (Option.some.inj h)
  subst e
  exact hk
theorem rd_kind (s : ByteArray) : ∀ (f : Nat) (m : Option (Int × Nat × List ByteArray)) (p : Nat) (nd : Nd) (q : Nat), (∀ x, m = some x → 1 ≤ x.1) → rd s f m p = some (nd, q) → 1 ≤ nd.1 := by
  intro f
  induction f with
  | zero => intro m p nd q _ h; cases m <;> (simp only [rd] at h; cases h)
  | succ f ih =>
    have ih2 : ∀ (k : Int) (n : Nat) (l : List ByteArray) (p : Nat) (nd : Nd) (q : Nat), 1 ≤ k → rd s f (some (k, n, l)) p = some (nd, q) → 1 ≤ nd.1 := fun k n l p nd q hk h => ih _ p nd q (fun x hx => by cases hx; exact hk) h
    intro m p nd q hm h
    cases m with
    | none =>
      rw [rd] at h
      repeat' (split at h)
      all_goals first
        | (cases h; done)
        | exact ih2 _ _ _ _ _ _ (kindV_pos (by assumption)) h
        | exact end_kind (kindV_pos (by assumption)) h
        | exact leaf_kind (kindV_pos (by assumption)) h
        | exact leaf_kind (k := 1) (by omega) h
        | exact leaf_kind (k := 4) (by omega) h
    | some x =>
      obtain ⟨k, n, parts⟩ := x
      have hk : 1 ≤ k := hm _ rfl
      rw [rd] at h
      repeat' (split at h)
      all_goals first
        | (cases h; done)
        | exact ih2 _ _ _ _ _ _ hk h
        | exact end_kind hk h
theorem kind_pos {s : ByteArray} {k : Int} {n : Nat} {b : List UInt8} {l : List ByteArray} (h : parseV s = some (k, n, b, l)) : 1 ≤ k := by
  unfold parseV at h
  split at h
  · cases h
  · split at h
    · cases h
    · rename_i nd q hr
      split at h
      · injection h with h
        have := rd_kind s _ none 0 nd q (by simp) hr
        rw [h] at this
        exact this
      · cases h
end
section
open Go.RowKit Go.Deep

/-- May a text stand in a message? -/
def fitW (s : ByteArray) : Bool := decide (s.size ≤ 65535) && (parseV s).isSome
set_option maxRecDepth 100000 in
set_option maxHeartbeats 6400000 in
theorem fit_any (w : World) (s : ByteArray) (hs : s.size ≤ maxLen) : Calls Tryz.prog 192 #[.string s] w (RetB (fitW s) w) := by
  have HK := hide (fun W => Kind_any W s hs)
  unfold KindPost at HK
  have hkz : (kindT s != 0) = (parseV s).isSome := by
    unfold kindT
    cases h : parseV s with
    | none => rfl
    | some nd =>
      obtain ⟨k, n, b, l⟩ := nd
      have := kind_pos h
      simp only [Option.isSome_some]
      rw [bne_iff_ne]
      omega
  unfold maxLen at hs
  by_cases h : s.size ≤ 65535
  · have hI : (s.size : Int) ≤ 65535 := by omega
    have HV := hide (show fitW s = (parseV s).isSome by unfold fitW; rw [decide_eq_true h, Bool.true_and])
    generalize kindT s = k at *
    generalize (parseV s).isSome = r at *
    clear h
    cases r
    all_goals
      go_enter Tryz.func192, Tryz.ntmps192
      go_wp2_with (go_at_call 53; refine (HK.out _).mono ?_; rintro e w1 ⟨rfl, ho⟩; have HC := hide ho; clear ho)
      go_ret
      exact retb HV.out HC.out
  · have hI : ¬ (s.size : Int) ≤ 65535 := by omega
    have HV := hide (show fitW s = false by unfold fitW; rw [decide_eq_false h, Bool.false_and])
    clear h
    go_enter Tryz.func192, Tryz.ntmps192
    go_wp2_with fail
    go_ret
    exact retb HV.out (Only.refl _ _)
end
section
open Go.RowKit Go.Deep

set_option maxRecDepth 100000 in
set_option maxHeartbeats 3200000 in
theorem row_none (k : Int) (h1 : (k == 1) = false) (h2 : (k == 2) = false) (h3 : (k == 3) = false) (h4 : (k == 4) = false) (w : World) : Calls Tryz.prog 174 #[.int .i64 k] w fun e w' => e = .returned (.slice none 0 0) ∧ Only [] w w' := by
  have hst := fun (W : World) (a : Addr) (fn : Fn) (c : Array Value) => (run_store Tryz.prog W a (.func fn #[] c) .plain rfl : (store a (.func fn #[] c)).run Tryz.prog W = stored Tryz.prog W a (.func fn #[] c) .plain)
  have hsn := fun (W : World) (a : Addr) => (run_store Tryz.prog W a .nilFunc .plain rfl : (store a .nilFunc).run Tryz.prog W = stored Tryz.prog W a .nilFunc .plain)
  have HO := hide (Only.refl [] w)
  go_enter Tryz.func174, Tryz.ntmps174
  go_wp2_with (go_at_call 206; refine (wnumber_any _ _).mono ?_; rintro e w1 ⟨rfl, hb1, hs1, ho1⟩; (first | (have HO := hide (HO.out.trans ho1)) | (have HO := hide ((HO.out.alloc _).trans ho1))); clear hb1 hs1 ho1)
  go_ret
  exact ⟨rfl, by repeat (first | exact HO.out | apply Only.alloc)⟩
end
section
open Go.RowKit Go.Deep

theorem set13 {w : World} {R : Nat} {t : TypeId} {a0 a1 a2 a3 a4 a5 a6 a7 a8 a9 a10 a11 a12 : Value} (h : Blk w R t #[a0, a1, a2, a3, a4, a5, a6, a7, a8, a9, a10, a11, a12]) (v0 v1 v2 v3 v4 v5 v6 v7 v8 v9 v10 v11 v12 : Value) : Blk (((((((((((((w.setCell ⟨R, 0, none⟩ v0).setCell ⟨R, 1, none⟩ v1).setCell ⟨R, 2, none⟩ v2).setCell ⟨R, 3, none⟩ v3).setCell ⟨R, 4, none⟩ v4).setCell ⟨R, 5, none⟩ v5).setCell ⟨R, 6, none⟩ v6).setCell ⟨R, 7, none⟩ v7).setCell ⟨R, 8, none⟩ v8).setCell ⟨R, 9, none⟩ v9).setCell ⟨R, 10, none⟩ v10).setCell ⟨R, 11, none⟩ v11).setCell ⟨R, 12, none⟩ v12) R t #[v0, v1, v2, v3, v4, v5, v6, v7, v8, v9, v10, v11, v12] := by
  have h2 := (((((((((((((h.set_ 0 v0).set_ 1 v1).set_ 2 v2).set_ 3 v3).set_ 4 v4).set_ 5 v5).set_ 6 v6).set_ 7 v7).set_ 8 v8).set_ 9 v9).set_ 10 v10).set_ 11 v11).set_ 12 v12)
  simp only [List.setIfInBounds_toArray, List.set_cons_zero, List.set_cons_succ] at h2
  exact h2
theorem only13 {S : List Nat} {a w : World} {R : Nat} (h : Only S a w) (hR : R ∈ S ∨ a.heap.size ≤ R) (v0 v1 v2 v3 v4 v5 v6 v7 v8 v9 v10 v11 v12 : Value) : Only S a (((((((((((((w.setCell ⟨R, 0, none⟩ v0).setCell ⟨R, 1, none⟩ v1).setCell ⟨R, 2, none⟩ v2).setCell ⟨R, 3, none⟩ v3).setCell ⟨R, 4, none⟩ v4).setCell ⟨R, 5, none⟩ v5).setCell ⟨R, 6, none⟩ v6).setCell ⟨R, 7, none⟩ v7).setCell ⟨R, 8, none⟩ v8).setCell ⟨R, 9, none⟩ v9).setCell ⟨R, 10, none⟩ v10).setCell ⟨R, 11, none⟩ v11).setCell ⟨R, 12, none⟩ v12) :=
  (((((((((((((h.setCell (p := ⟨R, 0, none⟩) hR v0).setCell (p := ⟨R, 1, none⟩) hR v1).setCell (p := ⟨R, 2, none⟩) hR v2).setCell (p := ⟨R, 3, none⟩) hR v3).setCell (p := ⟨R, 4, none⟩) hR v4).setCell (p := ⟨R, 5, none⟩) hR v5).setCell (p := ⟨R, 6, none⟩) hR v6).setCell (p := ⟨R, 7, none⟩) hR v7).setCell (p := ⟨R, 8, none⟩) hR v8).setCell (p := ⟨R, 9, none⟩) hR v9).setCell (p := ⟨R, 10, none⟩) hR v10).setCell (p := ⟨R, 11, none⟩) hR v11).setCell (p := ⟨R, 12, none⟩) hR v12)
end
section
open Go.RowKit Go.Deep

def strc (ts : List ByteArray) : List Value := ts.map .string
end
section
open Go.RowKit Go.Deep

/-- A message. -/
structure Mg where
  k : Int
  s : Nat
  r : Nat
  c : Nat
  x4 : ByteArray
  x5 : ByteArray
  x6 : ByteArray
  x7 : ByteArray
  x8 : ByteArray
  x9 : ByteArray
  x10 : ByteArray
  x11 : ByteArray
  x12 : ByteArray
/-- Its cells. -/
def Mg.cells (m : Mg) : Array Value := #[.int .i64 m.k, .int .u32 m.s, .int .u32 m.r, .int .u64 m.c, .string m.x4, .string m.x5, .string m.x6, .string m.x7, .string m.x8, .string m.x9, .string m.x10, .string m.x11, .string m.x12]
def eqM (m n : Mg) : Bool := m.k == n.k && m.s == n.s && m.r == n.r && m.c == n.c && m.x4.toList == n.x4.toList && m.x5.toList == n.x5.toList && m.x6.toList == n.x6.toList && m.x7.toList == n.x7.toList && m.x8.toList == n.x8.toList && m.x9.toList == n.x9.toList && m.x10.toList == n.x10.toList && m.x11.toList == n.x11.toList && m.x12.toList == n.x12.toList
theorem toList_inj {a b : ByteArray} (h : a.toList = b.toList) : a = b := by
  rw [ByteArray.toList_eq, ByteArray.toList_eq] at h
  obtain ⟨⟨x⟩⟩ := a
  obtain ⟨⟨y⟩⟩ := b
  exact congrArg (fun z => (⟨⟨z⟩⟩ : ByteArray)) h
theorem eqM_iff (m n : Mg) : eqM m n = true ↔ m = n := by
  constructor
  · intro h
    obtain ⟨k, s, r, c, x4, x5, x6, x7, x8, x9, x10, x11, x12⟩ := m
    obtain ⟨k', s', r', c', y4, y5, y6, y7, y8, y9, y10, y11, y12⟩ := n
    simp only [eqM, Bool.and_eq_true, beq_iff_eq] at h
    obtain ⟨⟨⟨⟨⟨⟨⟨⟨⟨⟨⟨⟨h0, h1⟩, h2⟩, h3⟩, h4⟩, h5⟩, h6⟩, h7⟩, h8⟩, h9⟩, h10⟩, h11⟩, h12⟩ := h
    rw [h0, h1, h2, h3, toList_inj h4, toList_inj h5, toList_inj h6, toList_inj h7, toList_inj h8, toList_inj h9, toList_inj h10, toList_inj h11, toList_inj h12]
  · rintro rfl
    simp [eqM]
set_option maxRecDepth 100000 in
set_option maxHeartbeats 3200000 in
theorem msg_fields : Tryz.prog.underlying 29 = some (.struct (Tryz.prog.fieldsOf 29)) := by kernel_rfl
set_option maxRecDepth 100000 in
set_option maxHeartbeats 3200000 in
theorem msg_eql (m n : Mg) (w : World) : (binOp .eql 29 (.agg m.cells) (.agg n.cells)).run Tryz.prog w = .ok (.bool (eqM m n)) w := by
  rw [run_eql_struct, run_equalIn_agg w 9999 _ _ _ msg_fields (by kernel_rfl)]
  obtain ⟨k, s, r, c, x4, x5, x6, x7, x8, x9, x10, x11, x12⟩ := m
  obtain ⟨k', s', r', c', y4, y5, y6, y7, y8, y9, y10, y11, y12⟩ := n
  simp [Mg.cells, eqM, Program.fieldsOf, Tryz.underlying29, Op.eqFields, go_sem]
  by_cases h : k = k'
  case neg =>
    rw [if_neg h]
    have e : (k == k') = false := by rw [beq_eq_false_iff_ne]; exact h
    simp only [e, Bool.false_and]
  rw [if_pos h]
  have e : (k == k') = true := by rw [beq_iff_eq]; exact h
  simp only [e, Bool.true_and]
  clear h e
  by_cases h : (s : Int) = s'
  case neg =>
    rw [if_neg h]
    have e : (s == s') = false := by rw [beq_eq_false_iff_ne]; omega
    simp only [e, Bool.false_and]
  rw [if_pos h]
  have e : (s == s') = true := by rw [beq_iff_eq]; omega
  simp only [e, Bool.true_and]
  clear h e
  by_cases h : (r : Int) = r'
  case neg =>
    rw [if_neg h]
    have e : (r == r') = false := by rw [beq_eq_false_iff_ne]; omega
    simp only [e, Bool.false_and]
  rw [if_pos h]
  have e : (r == r') = true := by rw [beq_iff_eq]; omega
  simp only [e, Bool.true_and]
  clear h e
  by_cases h : (c : Int) = c'
  case neg =>
    rw [if_neg h]
    have e : (c == c') = false := by rw [beq_eq_false_iff_ne]; omega
    simp only [e, Bool.false_and]
  rw [if_pos h]
  have e : (c == c') = true := by rw [beq_iff_eq]; omega
  simp only [e, Bool.true_and]
  clear h e
  by_cases h : x4.toList = y4.toList
  case neg =>
    rw [if_neg h]
    have e : (x4.toList == y4.toList) = false := by rw [beq_eq_false_iff_ne]; exact h
    simp only [e, Bool.false_and]
  rw [if_pos h]
  have e : (x4.toList == y4.toList) = true := by rw [beq_iff_eq]; exact h
  simp only [e, Bool.true_and]
  clear h e
  by_cases h : x5.toList = y5.toList
  case neg =>
    rw [if_neg h]
    have e : (x5.toList == y5.toList) = false := by rw [beq_eq_false_iff_ne]; exact h
    simp only [e, Bool.false_and]
  rw [if_pos h]
  have e : (x5.toList == y5.toList) = true := by rw [beq_iff_eq]; exact h
  simp only [e, Bool.true_and]
  clear h e
  by_cases h : x6.toList = y6.toList
  case neg =>
    rw [if_neg h]
    have e : (x6.toList == y6.toList) = false := by rw [beq_eq_false_iff_ne]; exact h
    simp only [e, Bool.false_and]
  rw [if_pos h]
  have e : (x6.toList == y6.toList) = true := by rw [beq_iff_eq]; exact h
  simp only [e, Bool.true_and]
  clear h e
  by_cases h : x7.toList = y7.toList
  case neg =>
    rw [if_neg h]
    have e : (x7.toList == y7.toList) = false := by rw [beq_eq_false_iff_ne]; exact h
    simp only [e, Bool.false_and]
  rw [if_pos h]
  have e : (x7.toList == y7.toList) = true := by rw [beq_iff_eq]; exact h
  simp only [e, Bool.true_and]
  clear h e
  by_cases h : x8.toList = y8.toList
  case neg =>
    rw [if_neg h]
    have e : (x8.toList == y8.toList) = false := by rw [beq_eq_false_iff_ne]; exact h
    simp only [e, Bool.false_and]
  rw [if_pos h]
  have e : (x8.toList == y8.toList) = true := by rw [beq_iff_eq]; exact h
  simp only [e, Bool.true_and]
  clear h e
  by_cases h : x9.toList = y9.toList
  case neg =>
    rw [if_neg h]
    have e : (x9.toList == y9.toList) = false := by rw [beq_eq_false_iff_ne]; exact h
    simp only [e, Bool.false_and]
  rw [if_pos h]
  have e : (x9.toList == y9.toList) = true := by rw [beq_iff_eq]; exact h
  simp only [e, Bool.true_and]
  clear h e
  by_cases h : x10.toList = y10.toList
  case neg =>
    rw [if_neg h]
    have e : (x10.toList == y10.toList) = false := by rw [beq_eq_false_iff_ne]; exact h
    simp only [e, Bool.false_and]
  rw [if_pos h]
  have e : (x10.toList == y10.toList) = true := by rw [beq_iff_eq]; exact h
  simp only [e, Bool.true_and]
  clear h e
  by_cases h : x11.toList = y11.toList
  case neg =>
    rw [if_neg h]
    have e : (x11.toList == y11.toList) = false := by rw [beq_eq_false_iff_ne]; exact h
    simp only [e, Bool.false_and]
  rw [if_pos h]
  have e : (x11.toList == y11.toList) = true := by rw [beq_iff_eq]; exact h
  simp only [e, Bool.true_and]
  clear h e
  by_cases h : x12.toList = y12.toList
  case neg =>
    rw [if_neg h]
    have e : (x12.toList == y12.toList) = false := by rw [beq_eq_false_iff_ne]; exact h
    simp only [e]
  rw [if_pos h]
  have e : (x12.toList == y12.toList) = true := by rw [beq_iff_eq]; exact h
  simp only [e]
end
section
open Go.RowKit Go.Deep

def noT : ByteArray := ⟨#[]⟩
/-- The texts of a message's row. -/
def textsM (m : Mg) : List ByteArray := if m.k = 1 then [m.x4, m.x5, m.x6, m.x11, m.x12] else if m.k = 2 then [m.x4, m.x7, m.x11, m.x12] else if m.k = 3 then [m.x8, m.x9] else [m.x10]
/-- The message with the fields of its row alone. -/
def onlyM (m : Mg) : Mg :=
  if m.k = 1 then ⟨1, m.s, 0, 0, m.x4, m.x5, m.x6, noT, noT, noT, noT, m.x11, m.x12⟩
  else if m.k = 2 then ⟨2, m.s, m.r, 0, m.x4, noT, noT, m.x7, noT, noT, noT, m.x11, m.x12⟩
  else if m.k = 3 then ⟨3, 0, m.r, 0, noT, noT, noT, noT, m.x8, m.x9, noT, noT, noT⟩
  else ⟨4, 0, m.r, m.c, noT, noT, noT, noT, noT, noT, m.x10, noT, noT⟩
/-- Is it a message? -/
def rightM (m : Mg) : Bool := decide (1 ≤ m.k ∧ m.k ≤ 4) && ((textsM m).all fitW && eqM (onlyM m) m)
/-- What fits the machine. -/
structure Mg.Fine (m : Mg) : Prop where
  s : m.s < 4294967296
  r : m.r < 4294967296
  c : m.c < 18446744073709551616
  x4 : m.x4.size ≤ maxLen
  x5 : m.x5.size ≤ maxLen
  x6 : m.x6.size ≤ maxLen
  x7 : m.x7.size ≤ maxLen
  x8 : m.x8.size ≤ maxLen
  x9 : m.x9.size ≤ maxLen
  x10 : m.x10.size ≤ maxLen
  x11 : m.x11.size ≤ maxLen
  x12 : m.x12.size ≤ maxLen

/-- What proper hands back: the row, where the message is right. -/
def PropPost (n : Nat) (C : Nat → Nat → List Value) (b : Bool) (w : World) (e : Ending) (w' : World) : Prop :=
  ∃ fv, e = .returned (.tuple #[fv, .bool b]) ∧ Only [] w w' ∧ (b = true → ∃ g b1 b2, fv = .slice (some ⟨g, 0, none⟩) n n ∧ w.heap.size ≤ g ∧ w.heap.size ≤ b1 ∧ w.heap.size ≤ b2 ∧ Blk w' g 230 (C b1 b2).toArray ∧
    Blk w' b1 308 #[fnV 207] ∧ Blk w' b2 308 #[fnV 208])
theorem prop_no {n : Nat} {C : Nat → Nat → List Value} {b : Bool} {fv : Value} {w w' : World} (h : b = false) (ho : Only [] w w') : PropPost n C b w (.returned (.tuple #[fv, .bool false])) w' := by
  subst h
  exact ⟨fv, rfl, ho, fun h => by cases h⟩
theorem prop_is {n : Nat} {C : Nat → Nat → List Value} {b b' : Bool} {w w' : World} {g b1 b2 : Nat} (h : b = b') (h1 : w.heap.size ≤ g) (h2 : w.heap.size ≤ b1) (h3 : w.heap.size ≤ b2) (h4 : Blk w' g 230 (C b1 b2).toArray)
    (h5 : Blk w' b1 308 #[fnV 207]) (h6 : Blk w' b2 308 #[fnV 208]) (h7 : Only [] w w') : PropPost n C b w (.returned (.tuple #[.slice (some ⟨g, 0, none⟩) n n, .bool b'])) w' := by
  subst h
  exact ⟨_, rfl, h7, fun _ => ⟨g, b1, b2, rfl, h1, h2, h3, h4, h5, h6⟩⟩
end
section
open Go.RowKit Go.Deep

theorem below_refl_ (B : Nat) (w : World) : Below B w w := ⟨rfl, rfl, rfl, Nat.le_refl _, fun _ _ => rfl⟩
theorem below_grown_ {B : Nat} {w w' w2 : World} (h : Below B w w') {row : Option Nat} (hg : w'.grownBy w2 row) (hr : ∀ k, row = some k → B ≤ k) (hB : B ≤ w'.heap.size) : Below B w w2 :=
  ⟨hg.os.trans h.os, hg.tape.trans h.tape, hg.output.trans h.output, Nat.le_trans h.size hg.size, fun i hi => (hg.block i (by omega) (fun e => by have := hr i e.symm; omega)).trans (h.block i hi)⟩
end
section
open Go.RowKit Go.Deep

theorem fit_size {x : ByteArray} (h : fitW x = true) : x.size ≤ 65535 := by
  unfold fitW at h
  rw [Bool.and_eq_true] at h
  exact of_decide_eq_true h.1
theorem only_below {S : List Nat} {B : Nat} {w u u' : World} (h : Only S w u) (hb : Below B u u') (hB : w.heap.size ≤ B) : Only S w u' :=
  ⟨hb.os.trans h.os, hb.tape.trans h.tape, hb.output.trans h.output, Nat.le_trans h.size hb.size, fun i hi hn => (hb.block i (by omega)).trans (h.block i hi hn)⟩
theorem below_row {B : Nat} {w w2 : World} {row : Option Nat} (hg : w.grownBy w2 row) (hr : ∀ k, row = some k → B ≤ k) (hB : B ≤ w.heap.size) : Below B w w2 := below_grown_ (below_refl_ B w) hg hr hB
/-- What Terms hands back. -/
def TermsPost (m : Mg) (w : World) (e : Ending) (w' : World) : Prop :=
  Only [] w w' ∧ if rightM m = true then ∃ v, e = .returned v ∧ Rd w' [] v (strc (textsM m)) else e = .returned (.slice none 0 0)
theorem terms_no {m : Mg} {w w' : World} (h : rightM m = false) (ho : Only [] w w') : TermsPost m w (.returned (.slice none 0 0)) w' := ⟨ho, by rw [if_neg (by rw [h]; decide)]⟩
theorem terms_yes {m : Mg} {w w' : World} {v : Value} {l : List ByteArray} {B n : Nat} (h : rightM m = true) (hl : textsM m = l) (ho : Only [] w w') (hown : w'.ownsRow B 9 1 v n (strc l)) : TermsPost m w (.returned v) w' :=
  ⟨ho, by rw [if_pos h, hl]; exact ⟨v, rfl, (Rd.of_own (N := []) hown (by simp)).1⟩⟩
end
end Go.Proofs.YtcokjoidpnfjhaaGreatDoor

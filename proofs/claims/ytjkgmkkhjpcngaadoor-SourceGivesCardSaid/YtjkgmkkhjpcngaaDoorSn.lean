/-
  The source's own example (awake) and the law SourceNil: by walking. Condition: the library's table of powers of ten reads as it was laid.
-/
import Derived.Test.YtjkgmkkhjpcngaaDoorSrc2
namespace Go.Proofs.YtjkgmkkhjpcngaaDoor
open Go.RowKit Go.Deep

theorem aw_new (w : World) : Calls Tryd.prog 29 #[.int .u32 7, .int .u32 100] w fun e w' => e = .returned (.pointer (some ⟨w.heap.size, 0, none⟩)) ∧ SrcIs w' w.heap.size 7 100 0 ∧ Below w.heap.size w w' :=
  (src_new 7 100 w).mono fun e w' h => ⟨h.1, by rw [h.2]; exact Blk.new w _ _, by rw [h.2]; exact below_of_only ((Only.refl [] w).alloc _) (Nat.le_refl _)⟩
theorem aw_secret (B g : Nat) (w : World) (hS : SrcIs w g 7 100 0) (hg : B ≤ g) (hB : B ≤ w.heap.size) (htab : ∀ W, Below B w W → Tab W) :
    Calls Tryd.prog 30 #[.pointer (some ⟨g, 0, none⟩)] w fun e w' => e = .returned (.tuple #[.string ⟨#[97, 55]⟩, .int .i64 0]) ∧ SrcIs w' g 8 100 0 ∧ Below B w w' :=
  (secret_more B g 7 100 0 w (by decide) hS hg hB htab).mono fun e w' h => ⟨by rw [h.1, Lib.decDigits_one (by decide)]; rfl, h.2.1, h.2.2.1⟩
theorem aw_index (B g : Nat) (w : World) (hS : SrcIs w g 8 100 0) (hg : B ≤ g) :
    Calls Tryd.prog 32 #[.pointer (some ⟨g, 0, none⟩)] w fun e w' => e = .returned (.tuple #[.int .u32 100, .int .i64 0]) ∧ SrcIs w' g 8 101 0 ∧ Below B w w' :=
  (index_more B g 8 100 0 w (by decide) hS hg).mono fun e w' h => ⟨h.1, h.2.1, h.2.2.1⟩
theorem aw_stamp5 (B g : Nat) (w : World) (hS : SrcIs w g 8 101 0) (hg : B ≤ g) :
    Calls Tryd.prog 34 #[.pointer (some ⟨g, 0, none⟩), .int .i64 5] w fun e w' => e = .returned (.tuple #[.int .u64 5, .int .i64 0]) ∧ SrcIs w' g 8 101 6 ∧ Below B w w' :=
  (stamp_ok B g 8 101 0 5 w (by decide) (by decide) hS hg).mono fun e w' h => ⟨h.1, h.2.1, h.2.2.1⟩
theorem aw_stamp3 (B g : Nat) (w : World) (hS : SrcIs w g 8 101 6) (hg : B ≤ g) :
    Calls Tryd.prog 34 #[.pointer (some ⟨g, 0, none⟩), .int .i64 3] w fun e w' => e = .returned (.tuple #[.int .u64 6, .int .i64 0]) ∧ SrcIs w' g 8 101 7 ∧ Below B w w' :=
  (stamp_ok B g 8 101 6 3 w (by decide) (by decide) hS hg).mono fun e w' h => ⟨h.1, h.2.1, h.2.2.1⟩

set_option maxRecDepth 100000 in
set_option maxHeartbeats 800000 in
theorem awake14 (w : World) (htab : Tab w) : Calls Tryd.prog 28 #[] w fun e w' => e = .returned (.bool true) ∧ Only [] w w' := by
  have HT := hide htab
  clear htab
  go_enter Tryd.func28, Tryd.ntmps28
  go_wp2_with (first
    | (go_at_call 29; refine (aw_new _).mono ?_; rintro e w1 ⟨rfl, hs, hb⟩; have HS := hide hs; have HC := hide hb; clear hs hb)
    | (go_at_call 30; refine (aw_secret w.heap.size w.heap.size _ HS.out (Nat.le_refl _) HC.out.size (fun W h => tab_below HT.out (HC.out.trans h))).mono ?_; rintro e w2 ⟨rfl, hs, hb⟩; have HS := hide hs; have HC := hide (HC.out.trans hb); clear hs hb)
    | (go_at_call 32; refine (aw_index w.heap.size w.heap.size _ HS.out (Nat.le_refl _)).mono ?_; rintro e w2 ⟨rfl, hs, hb⟩; have HS := hide hs; have HC := hide (HC.out.trans hb); clear hs hb)
    | (go_at_call 34; with_reducible refine (aw_stamp5 w.heap.size w.heap.size _ HS.out (Nat.le_refl _)).mono ?_; rintro e w2 ⟨rfl, hs, hb⟩; have HS := hide hs; have HC := hide (HC.out.trans hb); clear hs hb)
    | (go_at_call 34; with_reducible refine (aw_stamp3 w.heap.size w.heap.size _ HS.out (Nat.le_refl _)).mono ?_; rintro e w2 ⟨rfl, hs, hb⟩; have HS := hide hs; have HC := hide (HC.out.trans hb); clear hs hb))
  go_ret
  exact ⟨rfl, only_of_below HC.out⟩

set_option maxRecDepth 100000 in
set_option maxHeartbeats 3200000 in
theorem sourceNil_walk (t : Int) (w : World) (htab : Tab w) : Calls Tryd.prog 8 #[.int .i64 t] w fun e w' => e = .returned (.bool true) ∧ Only [] w w' := by
  have HT := hide htab
  clear htab
  go_enter Tryd.func8, Tryd.ntmps8
  go_wp2_with (first
    | (go_at_call 28; refine (awake14 _ HT.out).mono ?_; rintro e w1 ⟨rfl, ho⟩; have HC := hide ho; clear ho)
    | (go_at_call 30; refine (nil_secret _).mono ?_; rintro e w2 ⟨rfl, rfl⟩)
    | (go_at_call 32; refine (nil_index _).mono ?_; rintro e w2 ⟨rfl, rfl⟩)
    | (go_at_call 34; refine (nil_stamp _ _).mono ?_; rintro e w2 ⟨rfl, rfl⟩)
    | (go_at_call 36; refine (nil_left _).mono ?_; rintro e w2 ⟨rfl, rfl⟩))
  go_ret
  exact ⟨rfl, HC.out⟩
end Go.Proofs.YtjkgmkkhjpcngaaDoor

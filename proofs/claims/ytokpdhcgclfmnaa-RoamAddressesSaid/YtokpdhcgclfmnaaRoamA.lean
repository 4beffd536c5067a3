/-
  Contracts of roam.Address, roam.Where and of the law's own example, proved by walking the code. No condition.
-/
import Derived.Test.YtokpdhcgclfmnaaChecked
import Derived.WalkKit
import Derived.WalkSpells
import Derived.ProofKit
namespace Go.Proofs.Ytokpdhcgclfmnaa
open Go.RowKit

theorem address_in (h m : Int) (w : World) (h0 : 0 ≤ h) (h1 : h ≤ 7) (m0 : 0 ≤ m) (m1 : m ≤ 63) :
    Calls Try.prog 10 #[.int .i64 h, .int .i64 m] w fun e w' => e = .returned (.tuple #[.int .i64 (8 * m + h + 1), .int .i64 0]) ∧ w = w' := by
  go_enter Try.func10, Try.ntmps10
  go_wp2
  go_ret2
  exact ⟨rfl, rfl⟩

theorem address_out (h m : Int) (w : World) (ho : h < 0 ∨ 7 < h ∨ m < 0 ∨ 63 < m) :
    Calls Try.prog 10 #[.int .i64 h, .int .i64 m] w fun e w' => e = .returned (.tuple #[.int .i64 0, .int .i64 2]) ∧ w = w' := by
  go_enter Try.func10, Try.ntmps10
  go_wp2
  all_goals
    go_ret2
    exact ⟨rfl, rfl⟩

theorem where_in (a : Int) (w : World) (h0 : 1 ≤ a) (h1 : a ≤ 512) :
    Calls Try.prog 11 #[.int .i64 a] w fun e w' => e = .returned (.tuple #[.int .i64 ((a - 1) % 8), .int .i64 ((a - 1) / 8), .int .i64 0]) ∧ w = w' := by
  go_enter Try.func11, Try.ntmps11
  go_wp2
  go_ret3
  exact ⟨rfl, rfl⟩

theorem where_out (a : Int) (w : World) (h0 : a < 1 ∨ 512 < a) :
    Calls Try.prog 11 #[.int .i64 a] w fun e w' => e = .returned (.tuple #[.int .i64 0, .int .i64 0, .int .i64 2]) ∧ w = w' := by
  go_enter Try.func11, Try.ntmps11
  go_wp2
  all_goals
    go_ret3
    exact ⟨rfl, rfl⟩

theorem awake22 (w : World) :
    Calls Try.prog 9 #[] w fun e w' => e = .returned (.bool true) ∧ w = w' := by
  go_enter Try.func9, Try.ntmps9
  go_wp2_with (go_at_call 10; refine (address_in _ _ _ (by omega) (by omega) (by omega) (by omega)).mono ?_; rintro e w' ⟨rfl, rfl⟩)
  go_ret
  exact ⟨rfl, rfl⟩
end Go.Proofs.Ytokpdhcgclfmnaa

/-
  addr.mask: by walking.
-/
import Derived.Test.YtjkgmkkhjpcngaaDoorAd0
namespace Go.Proofs.YtjkgmkkhjpcngaaDoor
open Go.RowKit Go.Deep

theorem mask_any (p b : Nat) (w : World) (hp : p ≤ 1000) (hb : b ≤ 1000) : Calls Tryd.prog 42 #[.int .i64 p, .int .i64 b] w fun e w' => e = .returned (.int .u8 ((maskN p b : Nat) : Int)) ∧ w = w' := by
  by_cases h0 : b ≤ 8 * p
  · have h1 : (b : Int) - 8 * p ≤ 0 := by omega
    have HM := hide (show maskN p b = 0 by unfold maskN; rw [show b - 8 * p = 0 by omega]; rfl)
    clear h0
    go_enter Tryd.func42, Tryd.ntmps42
    go_wp2
    go_ret
    exact ⟨by rw [HM.out]; rfl, rfl⟩
  · by_cases h8 : 8 ≤ b - 8 * p
    · have h1 : ¬ (b : Int) - 8 * p ≤ 0 := by omega
      have h2 : 8 ≤ (b : Int) - 8 * p := by omega
      have HM := hide (show maskN p b = 255 by unfold maskN; rw [show min 8 (b - 8 * p) = 8 by omega])
      clear h0 h8
      go_enter Tryd.func42, Tryd.ntmps42
      go_wp2
      go_ret
      exact ⟨by rw [HM.out]; rfl, rfl⟩
    · obtain ⟨r, hr, hr1, hr7⟩ : ∃ r, b = 8 * p + r ∧ 1 ≤ r ∧ r ≤ 7 := ⟨b - 8 * p, by omega, by omega, by omega⟩
      subst hr
      have HM : Hid (maskN p (8 * p + r) = 256 - 2 ^ (8 - r)) := hide (by unfold maskN; rw [show min 8 (8 * p + r - 8 * p) = r by omega])
      clear h0 h8
      have e1 : (((8 * p + r : Nat) : Int)) = 8 * (p : Int) + (r : Int) := by omega
      rw [e1]
      have e2 : 8 * (p : Int) + (r : Int) - 8 * (p : Int) = (r : Int) := by omega
      clear hb
      rcases (show r = 1 ∨ r = 2 ∨ r = 3 ∨ r = 4 ∨ r = 5 ∨ r = 6 ∨ r = 7 by omega) with rfl | rfl | rfl | rfl | rfl | rfl | rfl
      all_goals
        clear hr1 hr7 e1
        go_enter Tryd.func42, Tryd.ntmps42
        go_wp2
        go_ret
        refine ⟨congrArg (fun x => Ending.returned (.int .u8 x)) ?_, rfl⟩
        rw [HM.out]
        simp only [Nat.add_sub_cancel_left]
        rfl

end Go.Proofs.YtjkgmkkhjpcngaaDoor

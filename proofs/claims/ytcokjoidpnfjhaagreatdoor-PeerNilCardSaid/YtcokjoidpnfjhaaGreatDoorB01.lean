/-
  Walks and plain words (texts Laid). No condition beyond those that each theorem states.
-/
import Derived.Test.YtcokjoidpnfjhaaGreatDoorRows
import Derived.Lib.LaidTab
import Derived.Deep.DeepLaidRun
import Derived.Stop.LaidErr
import Derived.LaidMore
import Derived.Test.YtcokjoidpnfjhaaGreatDoorA06
namespace Go.Proofs.YtcokjoidpnfjhaaGreatDoor
section
open Go.RowKit Go.ChangeShapes Go.WideShapes Go.ChangeAt

theorem own_all : ownKnob Tryz.prog.godebug = none := by kernel_rfl
abbrev laidAll : List (String × DataW Unit) := [("math/bits.deBruijn32tab", Rows.laid_math_bits_deBruijn32tab), ("math/bits.deBruijn64tab", Rows.laid_math_bits_deBruijn64tab), ("internal/strconv.uint64pow10", Rows.laid_internal_strconv_uint64pow10)]

theorem tab_of_laid {W : World} (h : laidMetH Tryz.prog laidAll W) : Tab W := by
  rw [MakeChecks.laidMetH_plain _ _ _ (by kernel_rfl)] at h
  exact Lib.tabIs_of_head (g := 0) (t := 338) (e := 27) (n := 20) (rest := []) (by kernel_rfl) (by kernel_rfl) Tryz.underlying338 Tryz.underlying27 (by kernel_rfl) (by kernel_rfl) (laidMet.tail (laidMet.tail h))

theorem door_met (os : Os) (args : Array Value) : laidMetH Tryz.prog laidAll ((World.doorLaid Tryz.prog 400 os).forCall (fun _ _ => 0) ⟨#[], args, []⟩).memory := by
  rw [MakeChecks.laidMetH_plain _ _ _ (by kernel_rfl)]
  exact laidMet_of_run3 8 (by kernel_rfl) (by kernel_rfl) (by kernel_rfl)
end
end Go.Proofs.YtcokjoidpnfjhaaGreatDoor

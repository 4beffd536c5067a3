/-
  Contract of the reference's Same on bytes, by walking.
-/
import Derived.Test.YtjkgmkkhjpcngaaDoorChecked
import Derived.Test.YtjkgmkkhjpcngaaDoorSl
namespace Go.Proofs.YtjkgmkkhjpcngaaDoor
open Go.RowKit Go.Deep

theorem same_bytes (v u : Value) (l m : List UInt8) (N M : List Nat) (w : World) (hx : Rd w N v (ints .u8 (byts l))) (hy : Rd w M u (ints .u8 (byts m))) :
    Calls Tryd.prog 14 #[v, u] w fun e w' => e = .returned (.bool (decide (l = m))) ∧ w = w' := by
  obtain ⟨A, cap, rfl, hc, hm⟩ := hx.formb
  obtain ⟨A', cap', rfl, hc', hm'⟩ := hy.formb
  have s1 := rd_string (P := Tryd.prog) hx 27 9 5 Tryd.underlying27 Tryd.underlying5 Tryd.underlying9
  have s2 := rd_string (P := Tryd.prog) hy 27 9 5 Tryd.underlying27 Tryd.underlying5 Tryd.underlying9
  have e : (l == m) = decide (l = m) := by
    by_cases h : l = m
    · simp [h]
    · simp [h]
  have E := hide e
  clear hx hy e
  go_enter Tryd.func14, Tryd.ntmps14
  go_wp2_with fail
  go_ret
  refine ⟨?_, rfl⟩
  rw [← E.out]
  rfl
end Go.Proofs.YtjkgmkkhjpcngaaDoor

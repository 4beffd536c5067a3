/-
  Contract of the reference's Same on bytes, by walking.
-/
import Derived.Test.YtjkgmkkhjpcngaaChecked
import Derived.Test.YtjkgmkkhjpcngaaSl
namespace Go.Proofs.Ytjkgmkkhjpcngaa
open Go.RowKit Go.Deep

theorem same_bytes (v u : Value) (l m : List UInt8) (N M : List Nat) (w : World) (hx : Rd w N v (ints .u8 (byts l))) (hy : Rd w M u (ints .u8 (byts m))) :
    Calls Try.prog 56 #[v, u] w fun e w' => e = .returned (.bool (decide (l = m))) ∧ w = w' := by
  obtain ⟨A, cap, rfl, hc, hm⟩ := hx.formb
  obtain ⟨A', cap', rfl, hc', hm'⟩ := hy.formb
  have s1 := rd_string (P := Try.prog) hx 23 9 5 Try.underlying23 Try.underlying5 Try.underlying9
  have s2 := rd_string (P := Try.prog) hy 23 9 5 Try.underlying23 Try.underlying5 Try.underlying9
  have e : (l == m) = decide (l = m) := by
    by_cases h : l = m
    · simp [h]
    · simp [h]
  have E := hide e
  clear hx hy e
  go_enter Try.func56, Try.ntmps56
  go_wp2_with fail
  go_ret
  refine ⟨?_, rfl⟩
  rw [← E.out]
  rfl
end Go.Proofs.Ytjkgmkkhjpcngaa

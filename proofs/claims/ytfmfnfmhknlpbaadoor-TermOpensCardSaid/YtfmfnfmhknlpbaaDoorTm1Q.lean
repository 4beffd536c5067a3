/-
  Contracts of term's small functions (kindOf, numbered, allowed, arity, fits) and num's sign: each hands back a number or a bool and leaves the world. No condition.
-/
import Derived.Test.YtfmfnfmhknlpbaaDoorChecked
import Derived.Test.YtfmfnfmhknlpbaaDoorZA
namespace Go.Proofs.YtfmfnfmhknlpbaaDoor
open Go.RowKit

def kindV (c : Int) : Int :=
  if c = 48 then 1 else if c = 97 then 2 else if c = 110 then 3 else if c = 120 then 4 else if c = 112 then 5 else if c = 100 then 6
  else if c = 104 then 7 else if c = 107 then 8 else if c = 109 then 9 else if c = 115 then 10 else if c = 108 then 11 else 0
set_option maxHeartbeats 1600000 in
theorem kindOf_any (c : Int) (w : World) : Calls Tryd.prog 124 #[.int .u8 c] w fun e w' => e = .returned (.int .i64 (kindV c)) ∧ w = w' := by
  go_enter Tryd.func124, Tryd.ntmps124
  go_wp2
  all_goals
    go_ret
    exact ⟨by simp_all [kindV], rfl⟩

def numberedV (k : Int) : Bool := (k == 2) || (k == 3) || (k == 8) || (k == 10)
set_option maxHeartbeats 1600000 in
theorem numbered_any (k : Int) (w : World) : Calls Tryd.prog 57 #[.int .i64 k] w fun e w' => e = .returned (.bool (numberedV k)) ∧ w = w' := by
  go_enter Tryd.func57, Tryd.ntmps57
  go_wp2
  all_goals
    go_ret
    exact ⟨by simp_all [numberedV], rfl⟩

def allowedV (k n : Int) : Bool := if k = 2 then decide (n ≤ 4294967295) else if k = 8 then decide (1 ≤ n ∧ n ≤ 3) else true
set_option maxHeartbeats 1600000 in
theorem allowed_any (k n : Int) (w : World) : Calls Tryd.prog 58 #[.int .i64 k, .int .u64 n] w fun e w' => e = .returned (.bool (allowedV k n)) ∧ w = w' := by
  go_enter Tryd.func58, Tryd.ntmps58
  go_wp2
  all_goals
    go_ret
    exact ⟨by first | (simp_all [allowedV]; done) | (simp_all [allowedV]; omega), rfl⟩

def leastV (k : Int) : Int := if k = 5 then 1 else if k = 6 ∨ k = 8 ∨ k = 9 then 2 else if k = 10 then 3 else if k = 7 then 1 else 0
def mostV (k : Int) : Int := if k = 5 then 1 else if k = 6 ∨ k = 8 ∨ k = 9 then 2 else if k = 10 then 3 else if k = 7 then -1 else if k = 11 then -1 else 0
set_option maxHeartbeats 1600000 in
theorem arity_any (k : Int) (w : World) : Calls Tryd.prog 84 #[.int .i64 k] w fun e w' => e = .returned (.tuple #[.int .i64 (leastV k), .int .i64 (mostV k)]) ∧ w = w' := by
  go_enter Tryd.func84, Tryd.ntmps84
  go_wp2
  all_goals
    go_ret2
    exact ⟨by simp_all [leastV, mostV], rfl⟩

def fitsV (k c : Int) : Bool := decide (leastV k ≤ c) && (decide (mostV k < 0) || decide (c ≤ mostV k))
set_option maxHeartbeats 1600000 in
theorem fits_any (k c : Int) (w : World) : Calls Tryd.prog 59 #[.int .i64 k, .int .i64 c] w fun e w' => e = .returned (.bool (fitsV k c)) ∧ w = w' := by
  go_enter Tryd.func59, Tryd.ntmps59
  go_wp2_with (go_at_call 84; refine (arity_any _ _).mono ?_; rintro e w' ⟨rfl, rfl⟩)
  all_goals
    go_ret
    exact ⟨by first | (simp_all [fitsV]; done) | (simp_all [fitsV]; omega), rfl⟩

def signV (r : Int) : Int := if 48 ≤ r ∧ r ≤ 57 then r - 48 else if 97 ≤ r ∧ r ≤ 102 then r - 87 else -1
set_option maxHeartbeats 1600000 in
theorem sign_any (r : Int) (w : World) : Calls Tryd.prog 137 #[.int .i32 r] w fun e w' => e = .returned (.int .i64 (signV r)) ∧ w = w' := by
  by_cases h1 : 48 ≤ r ∧ r ≤ 57
  · obtain ⟨h1, h2⟩ := h1
    have hv : signV r = r - 48 := by unfold signV; rw [if_pos ⟨h1, h2⟩]
    have HV := hide hv
    clear hv
    go_enter Tryd.func137, Tryd.ntmps137
    go_wp2
    all_goals
      go_ret
      exact ⟨(by rw [HV.out]; rfl), rfl⟩
  · by_cases h2 : 97 ≤ r ∧ r ≤ 102
    · obtain ⟨h2, h3⟩ := h2
      have hv : signV r = r - 97 + 10 := by unfold signV; rw [if_neg h1, if_pos ⟨h2, h3⟩]; omega
      have h4 : ¬ r ≤ 57 := by omega
      have h5 : 48 ≤ r := by omega
      have HV := hide hv
      clear hv h1
      go_enter Tryd.func137, Tryd.ntmps137
      go_wp2
      all_goals
        go_ret
        exact ⟨(by rw [HV.out]; rfl), rfl⟩
    · have hv : signV r = -1 := by unfold signV; rw [if_neg h1, if_neg h2]
      have HV := hide hv
      clear hv
      by_cases a : 48 ≤ r <;> by_cases b : r ≤ 57 <;> by_cases c : 97 ≤ r <;> by_cases d : r ≤ 102
      all_goals first
        | (exfalso; omega)
        | (clear h1 h2
           go_enter Tryd.func137, Tryd.ntmps137
           go_wp2
           all_goals
             go_ret
             exact ⟨(by rw [HV.out]; rfl), rfl⟩)
end Go.Proofs.YtfmfnfmhknlpbaaDoor

/-
  The reference's Stamp, the source's Left: by walking.
-/
import Derived.Test.YtjkgmkkhjpcngaaDoorRd
namespace Go.Proofs.YtjkgmkkhjpcngaaDoor
open Go.RowKit Go.Deep

theorem left_one (n : Nat) (h : n ≤ 4294967295) (w : World) : Calls Tryd.prog 50 #[.int .u32 (n : Int)] w fun e w' => e = .returned (.int .u32 ((4294967295 - n : Nat) : Int)) ∧ w = w' := by
  have hw : IntKind.u32.wrap (4294967295 - (n : Int)) = ((4294967295 - n : Nat) : Int) := by rw [IntKind.wrap_u32]; omega
  go_enter Tryd.func50, Tryd.ntmps50
  go_wp2
  go_ret
  exact ⟨rfl, rfl⟩
theorem left_any (w : World) (g a i m : Nat) (ha : a ≤ 4294967295) (hi : i ≤ 4294967295) (hS : SrcIs w g a i m) :
    Calls Tryd.prog 36 #[.pointer (some ⟨g, 0, none⟩)] w fun e w' => e = .returned (.tuple #[.int .u32 ((4294967295 - a : Nat) : Int), .int .u32 ((4294967295 - i : Nat) : Int)]) ∧ Only [] w w' := by
  have k0 : w.cell? ⟨g, 0, none⟩ = some (.int .u32 (a : Int)) := hS.cell 0
  have k1 : w.cell? ⟨g, 1, none⟩ = some (.int .u32 (i : Int)) := hS.cell 1
  have HA := hide (left_one a ha)
  have HI := hide (left_one i hi)
  clear hS
  go_enter Tryd.func36, Tryd.ntmps36
  go_wp2_with fail
  go_region_with (first
    | (go_at_call 50; (with_reducible refine (HA.out _).mono ?_); rintro e w1 ⟨rfl, rfl⟩)
    | (go_at_call 50; (with_reducible refine (HI.out _).mono ?_); rintro e w1 ⟨rfl, rfl⟩))
  all_goals
    go_wp2_with fail
    go_ret2
    exact ⟨rfl, ((Only.refl [] w).drewN _)⟩
theorem time_ref (t : Int) (w : World) : Calls Tryd.prog 49 #[.int .i64 t] w fun e w' => e = .returned (.bool (decide (0 ≤ t) && decide (t ≤ 1125899906842624))) ∧ w = w' := by
  go_enter Tryd.func49, Tryd.ntmps49
  go_wp2
  all_goals
    go_ret
    exact ⟨by first | (simp_all; done) | (simp_all; omega), rfl⟩
theorem refstamp_bad (w : World) (g : Nat) (t : Int) (ht : t < 0 ∨ 1125899906842624 < t) :
    Calls Tryd.prog 35 #[.pointer (some ⟨g, 0, none⟩), .int .i64 t] w fun e w' => e = .returned (.tuple #[.int .u64 0, .int .i64 2]) ∧ w = w' := by
  have hb : (decide (0 ≤ t) && decide (t ≤ 1125899906842624)) = false := by simp; omega
  clear ht
  go_enter Tryd.func35, Tryd.ntmps35
  go_wp2_with (go_at_call 49; refine (time_ref _ _).mono ?_; rintro e w1 ⟨rfl, rfl⟩; rw [hb])
  go_ret2
  exact ⟨rfl, rfl⟩
theorem refstamp_ok (B g a i m t : Nat) (w : World) (ht : t ≤ 1125899906842624) (hm : m ≤ 2000000000000000) (hS : RefIs w g a i m) (hg : B ≤ g) :
    Calls Tryd.prog 35 #[.pointer (some ⟨g, 0, none⟩), .int .i64 (t : Int)] w fun e w' => e = .returned (.tuple #[.int .u64 ((max m t : Nat) : Int), .int .i64 0]) ∧ RefIs w' g a i (max m t + 1) ∧ Below B w w' ∧ Only [g] w w' := by
  have hb : (decide (0 ≤ (t : Int)) && decide ((t : Int) ≤ 1125899906842624)) = true := by simp; omega
  have hw : IntKind.u64.wrap (t : Int) = t := by rw [IntKind.wrap_u64]; omega
  have k2 : w.cell? ⟨g, 2, none⟩ = some (.int .u64 (m : Int)) := hS.cell 2
  have f2 := hS.frozen 2
  obtain ⟨u, hu⟩ : ∃ u, u = max m t := ⟨_, rfl⟩
  have hw1 : IntKind.u64.wrap ((u : Int) + 1) = ((u + 1 : Nat) : Int) := by rw [IntKind.wrap_u64]; omega
  have HS := hide (show RefIs (w.setCell ⟨g, 2, none⟩ (.int .u64 ((u + 1 : Nat) : Int))) g a i (u + 1) from hS.set_ 2 _)
  have HC := hide ((Below.refl B w).setCell (p := ⟨g, 2, none⟩) hg (.int .u64 ((u + 1 : Nat) : Int)))
  rw [← hu]
  clear hS hg
  rcases Nat.lt_or_ge m t with h | h
  · obtain rfl : u = t := by omega
    have hlt : (m : Int) < u := by omega
    clear hu h
    go_enter Tryd.func35, Tryd.ntmps35
    go_wp2_with (go_at_call 49; refine (time_ref _ _).mono ?_; rintro e w1 ⟨rfl, rfl⟩; rw [hb])
    go_ret2
    exact ⟨rfl, HS.out, HC.out, (Only.refl [g] w).setCell (p := ⟨g, 2, none⟩) (.inl (by simp)) _⟩
  · obtain rfl : u = m := by omega
    have hlt : ¬ (u : Int) < t := by omega
    clear hu h
    go_enter Tryd.func35, Tryd.ntmps35
    go_wp2_with (go_at_call 49; refine (time_ref _ _).mono ?_; rintro e w1 ⟨rfl, rfl⟩; rw [hb])
    go_ret2
    exact ⟨rfl, HS.out, HC.out, (Only.refl [g] w).setCell (p := ⟨g, 2, none⟩) (.inl (by simp)) _⟩
end Go.Proofs.YtjkgmkkhjpcngaaDoor

/-
  slots: Erase, and the statement on slots that aren't there. No condition.
-/
import Derived.Test.YtjkgmkkhjpcngaaSo2
import Derived.Handy
namespace Go.Proofs.Ytjkgmkkhjpcngaa
open Go.RowKit Go.Deep

def cnt : Option Nat → Int
  | none => 0
  | some _ => 1
theorem idx4 (x0 x1 x2 x3 : Value) (w : World) : (Instr.index 98 (.agg #[x0, x1, x2, x3]) (.int .i64 0)).run Try.prog w = .ok x0 w ∧ (Instr.index 98 (.agg #[x0, x1, x2, x3]) (.int .i64 1)).run Try.prog w = .ok x1 w ∧
    (Instr.index 98 (.agg #[x0, x1, x2, x3]) (.int .i64 2)).run Try.prog w = .ok x2 w ∧ (Instr.index 98 (.agg #[x0, x1, x2, x3]) (.int .i64 3)).run Try.prog w = .ok x3 w := ⟨by kernel_rfl, by kernel_rfl, by kernel_rfl, by kernel_rfl⟩
def ErasePost (S : Nat) (k : Int) (w : World) (e : Ending) (w' : World) : Prop := e = .returned (.int .i64 k) ∧ SlotsIs w' S none none none ∧ Only [S] w w'
theorem erasepost {S : Nat} {k k' : Int} {w w' : World} (hk : k = k') (h : SlotsIs w' S none none none) (ho : Only [S] w w') : ErasePost S k w (.returned (.int .i64 k')) w' := by subst hk; exact ⟨rfl, h, ho⟩
set_option maxRecDepth 100000 in
set_option maxHeartbeats 3200000 in
theorem erase_any (w : World) (S : Nat) (p c n : Option Nat) (h : SlotsIs w S p c n) :
    Calls Try.prog 30 #[.pointer (some ⟨S, 0, none⟩)] w (ErasePost S (cnt p + cnt c + cnt n) w) := by
  have k0 := h.cell 0
  have k1 := h.cell 1
  have k2 := h.cell 2
  have k3 := h.cell 3
  have f := h.frozen
  simp at k0 k1 k2 k3
  have HS := hide h
  have HO := hide (Only.refl [S] w)
  have i0 := fun x0 x1 x2 x3 W => (idx4 x0 x1 x2 x3 W).1
  have i1 := fun x0 x1 x2 x3 W => (idx4 x0 x1 x2 x3 W).2.1
  have i2 := fun x0 x1 x2 x3 W => (idx4 x0 x1 x2 x3 W).2.2.1
  have i3 := fun x0 x1 x2 x3 W => (idx4 x0 x1 x2 x3 W).2.2.2
  clear h
  cases p <;> cases c <;> cases n
  all_goals
    simp only [pv] at k1 k2 k3
    go_enter Try.func30, Try.ntmps30
    go_wp2
    go_rounds 5
    all_goals
      go_ret
      exact erasepost rfl ((((HS.out.set_ 0 _).set_ 1 _).set_ 2 _).set_ 3 _) ((((HO.out.setCell (p := ⟨S, 0, none⟩) (.inl (by simp)) _).setCell (p := ⟨S, 1, none⟩) (.inl (by simp)) _).setCell (p := ⟨S, 2, none⟩) (.inl (by simp)) _).setCell (p := ⟨S, 3, none⟩) (.inl (by simp)) _)

set_option maxRecDepth 100000 in
set_option maxHeartbeats 6400000 in
theorem slotsNil_walk (lo now which : Int) (w : World) :
    Calls Try.prog 6 #[.int .u32 lo, .int .i64 now, .int .i64 which] w fun e w' => e = .returned (.bool true) ∧ Only [] w w' := by
  have e0 := erase_any
  go_enter Try.func6, Try.ntmps6
  go_wp2_with (first
    | (go_at_call 22; refine (awake13 _).mono ?_; rintro e w1 ⟨rfl, ho⟩; have HO1 := hide ho; clear ho)
    | (go_at_call 24; refine (fresh_any _ _ 5 (by omega) (by omega)).mono ?_; rintro e w2 ⟨g, c, rfl, _, _, ho⟩; have HO2 := hide (HO1.out.trans ho); clear ho)
    | (go_at_call 23; refine (slots_new _).mono ?_; rintro e w3 ⟨S, rfl, hS, hs, ho⟩; have HO3 := hide (HO2.out.trans ho); have HS := hide hs; have HZ := hide hS; clear ho hs hS)
    | (go_at_call 35; refine (find_nil _ _).mono ?_; rintro e w' ⟨rfl, rfl⟩)
    | (go_at_call 36; refine (newest_nil _).mono ?_; rintro e w' ⟨rfl, rfl⟩)
    | (go_at_call 32; refine (at_nil _ _).mono ?_; rintro e w' ⟨rfl, rfl⟩)
    | (go_at_call 37; refine (usable_nil _ _).mono ?_; rintro e w' ⟨rfl, rfl⟩)
    | (go_at_call 25; (with_reducible refine (begun_nil _ _).mono ?_); rintro e w' ⟨rfl, rfl⟩)
    | (go_at_call 25; (with_reducible refine (begun_none _ _).mono ?_); rintro e w' ⟨rfl, rfl⟩)
    | (go_at_call 27; (with_reducible refine (heard_nil _ _).mono ?_); rintro e w' ⟨rfl, rfl⟩)
    | (go_at_call 27; (with_reducible refine (heard_none _ _).mono ?_); rintro e w' ⟨rfl, rfl⟩)
    | (go_at_call 28; (with_reducible refine (confirm_nil _ _).mono ?_); rintro e w' ⟨rfl, rfl⟩)
    | (go_at_call 28; (with_reducible refine (confirm_none _ _).mono ?_); rintro e w' ⟨rfl, rfl⟩)
    | (go_at_call 30; (with_reducible refine (erase_nil _).mono ?_); rintro e w' ⟨rfl, rfl⟩)
    | (go_at_call 30; (with_reducible refine (erase_any _ S none none none HS.out).mono ?_); rintro e w4 ⟨rfl, _, ho⟩; have HO4 := hide (show Only [] w w4 from ((HO3.out.mono (S' := [S]) (by simp)).trans ho).mono (by have := HZ.out; have := HO2.out.size; simp; omega)); clear ho; simp only [cnt, Int.add_zero]))
  go_ret
  exact ⟨rfl, HO4.out⟩
end Go.Proofs.Ytjkgmkkhjpcngaa

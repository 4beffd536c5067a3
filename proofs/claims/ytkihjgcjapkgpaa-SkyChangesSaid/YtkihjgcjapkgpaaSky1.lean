/-
  Contracts of the small functions of sky and of its reference, by walking.
-/
import Derived.Test.YtkihjgcjapkgpaaChecked
import Derived.Test.YtkihjgcjapkgpaaFlo
import Derived.Test.YtkihjgcjapkgpaaSl
namespace Go.Proofs.Ytkihjgcjapkgpaa
open Go.RowKit Go.Deep

/-- A complex number of whole parts. -/
def Cx (c : Value) (x y : Int) : Prop := ∃ a b, c = .complex .f64 a b ∧ FI a x ∧ FI b y

def pt (p : Int × Int) : Value := .agg #[.int .i64 p.1, .int .i64 p.2]
def Right (p : Int × Int) : Bool := decide (-16777216 ≤ p.1 ∧ p.1 ≤ 16777216 ∧ -16777216 ≤ p.2 ∧ p.2 ≤ 16777216)

theorem sq_bd {x : Int} {B : Nat} (h1 : -(B : Int) ≤ x) (h2 : x ≤ B) : 0 ≤ x * x ∧ x * x ≤ ((B * B : Nat) : Int) := by
  have e := Int.natAbs_mul_self (a := x)
  have h : x.natAbs ≤ B := by omega
  have := Nat.mul_le_mul h h
  omega

theorem number_any (w : World) (x y : Int) (hx : -40000000 ≤ x ∧ x ≤ 40000000) (hy : -40000000 ≤ y ∧ y ≤ 40000000) :
    Calls Try.prog 40 #[.agg #[.int .i64 x, .int .i64 y]] w fun e w' => ∃ c, e = .returned c ∧ Cx c x y ∧ Only [] w w' := by
  have h1 := hide (fi_ofInt (n := x) (by omega))
  have h2 := hide (fi_ofInt (n := y) (by omega))
  clear hx hy
  go_enter Try.func40, Try.ntmps40
  go_wp2_with fail
  go_ret
  exact ⟨_, rfl, ⟨_, _, rfl, h1.out, h2.out⟩, (Only.refl _ _).alloc _⟩
theorem square_any (w : World) (c : Value) (x y : Int) (hc : Cx c x y) (hx : -40000000 ≤ x ∧ x ≤ 40000000) (hy : -40000000 ≤ y ∧ y ≤ 40000000) :
    Calls Try.prog 41 #[c] w fun e w' => ∃ r, e = .returned (.float .f64 r) ∧ FI r (x * x + y * y) ∧ w = w' := by
  obtain ⟨a, b, rfl, ha, hb⟩ := hc
  have b1 := sq_bd (B := 40000000) hx.1 hx.2
  have b2 := sq_bd (B := 40000000) hy.1 hy.2
  obtain ⟨r1, e1, f1⟩ := fi_mul ha ha (by omega)
  obtain ⟨r2, e2, f2⟩ := fi_mul hb hb (by omega)
  obtain ⟨r3, e3, f3⟩ := fi_add f1 f2 (by omega)
  have m1 := fun w => run_float_arith (P := Try.prog) w .mul 88 .f64 a a r1 e1
  have m2 := fun w => run_float_arith (P := Try.prog) w .mul 88 .f64 b b r2 e2
  have m3 := fun w => run_float_arith (P := Try.prog) w .add 88 .f64 r1 r2 r3 e3
  have F3 := hide f3
  clear ha hb f1 f2 f3 e1 e2 e3 b1 b2 hx hy
  go_enter Try.func41, Try.ntmps41
  go_wp2_with fail
  go_ret
  exact ⟨r3, rfl, F3.out, rfl⟩
theorem point_any (w : World) (c : Value) (x y : Int) (hc : Cx c x y) (hx : -40000000 ≤ x ∧ x ≤ 40000000) (hy : -40000000 ≤ y ∧ y ≤ 40000000) :
    Calls Try.prog 43 #[c] w fun e w' => e = .returned (.agg #[.int .i64 x, .int .i64 y]) ∧ Only [] w w' := by
  obtain ⟨a, b, rfl, ha, hb⟩ := hc
  have c1 := fun w => run_convert_float_int (P := Try.prog) w 88 3 .f64 .i64 a x (by rw [Try.underlying88]; rfl) Try.underlying3 (fi_toInt ha (by omega) (by omega))
  have c2 := fun w => run_convert_float_int (P := Try.prog) w 88 3 .f64 .i64 b y (by rw [Try.underlying88]; rfl) Try.underlying3 (fi_toInt hb (by omega) (by omega))
  clear ha hb hx hy
  go_enter Try.func43, Try.ntmps43
  go_wp2_with fail
  refine bodyPost_ret (v := .agg #[.int .i64 x, .int .i64 y]) (by simp [results, Try.results43, go_sem]) rfl ⟨rfl, ?_⟩
  repeat (first | exact Only.refl _ _ | refine Only.drew ?_ | refine Only.drewN ?_ _ | refine Only.setCell ?_ (.inr (by simp)) _ | refine Only.alloc ?_ _)

def inB (far : Int) (p : Int × Int) : Bool := decide (-far ≤ p.1 ∧ p.1 ≤ far ∧ -far ≤ p.2 ∧ p.2 ≤ far)

set_option maxRecDepth 100000 in
theorem within_any (w : World) (p : Int × Int) (far : Int) (h0 : 0 ≤ far) (h1 : far ≤ 20000000) (hx : -9223372036854775808 ≤ p.1 ∧ p.1 ≤ 9223372036854775807) (hy : -9223372036854775808 ≤ p.2 ∧ p.2 ≤ 9223372036854775807) :
    Calls Try.prog 44 #[pt p, .int .i64 far] w fun e w' => e = .returned (.bool (inB far p)) ∧ Only [] w w' := by
  obtain ⟨x, y⟩ := p
  simp only at hx hy
  unfold pt inB
  simp only
  have hO := hide ((Only.refl [] w).alloc (.cells #[.int .i64 x, .int .i64 y] 24))
  by_cases g1 : -far ≤ x
  · by_cases g2 : x ≤ far
    · by_cases g3 : -far ≤ y
      · by_cases g4 : y ≤ far
        · rw [decide_eq_true (show -far ≤ x ∧ x ≤ far ∧ -far ≤ y ∧ y ≤ far from ⟨g1, g2, g3, g4⟩)]
          go_enter Try.func44, Try.ntmps44
          go_wp2_with fail
          go_ret
          exact ⟨rfl, hO.out⟩
        · rw [decide_eq_false (show ¬ (-far ≤ x ∧ x ≤ far ∧ -far ≤ y ∧ y ≤ far) from fun h => g4 h.2.2.2)]
          have g4' : decide (y ≤ far) = false := decide_eq_false g4
          clear g4
          go_enter Try.func44, Try.ntmps44
          go_wp2_with fail
          go_ret
          exact ⟨rfl, hO.out⟩
      · rw [decide_eq_false (show ¬ (-far ≤ x ∧ x ≤ far ∧ -far ≤ y ∧ y ≤ far) from fun h => g3 h.2.2.1)]
        have g3' : decide (-far ≤ y) = false := decide_eq_false g3
        clear g3
        go_enter Try.func44, Try.ntmps44
        go_wp2_with fail
        go_ret
        exact ⟨rfl, hO.out⟩
    · rw [decide_eq_false (show ¬ (-far ≤ x ∧ x ≤ far ∧ -far ≤ y ∧ y ≤ far) from fun h => g2 h.2.1)]
      have g2' : decide (x ≤ far) = false := decide_eq_false g2
      clear g2
      go_enter Try.func44, Try.ntmps44
      go_wp2_with fail
      go_ret
      exact ⟨rfl, hO.out⟩
  · rw [decide_eq_false (show ¬ (-far ≤ x ∧ x ≤ far ∧ -far ≤ y ∧ y ≤ far) from fun h => g1 h.1)]
    have g1' : decide (-far ≤ x) = false := decide_eq_false g1
    clear g1
    go_enter Try.func44, Try.ntmps44
    go_wp2_with fail
    go_ret
    exact ⟨rfl, hO.out⟩
end Go.Proofs.Ytkihjgcjapkgpaa

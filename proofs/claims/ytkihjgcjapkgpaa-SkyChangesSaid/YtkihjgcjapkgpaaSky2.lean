/-
  Contracts of sky's Right, Far and of their references, by walking.
-/
import Derived.Test.YtkihjgcjapkgpaaSky1
namespace Go.Proofs.Ytkihjgcjapkgpaa
open Go.RowKit Go.Deep

/-- Within what a machine's integer holds. -/
def Fit (p : Int × Int) : Prop := (-9223372036854775808 ≤ p.1 ∧ p.1 ≤ 9223372036854775807) ∧ (-9223372036854775808 ≤ p.2 ∧ p.2 ≤ 9223372036854775807)
def okP (p : Int × Int) : Bool := inB 16777216 p
theorem okP_bd {p : Int × Int} (h : okP p = true) : (-16777216 ≤ p.1 ∧ p.1 ≤ 16777216) ∧ (-16777216 ≤ p.2 ∧ p.2 ≤ 16777216) := by
  have := of_decide_eq_true h
  omega
def farV (p q : Int × Int) : Int := (p.1 - q.1) * (p.1 - q.1) + (p.2 - q.2) * (p.2 - q.2)

theorem right_any (w : World) (p : Int × Int) (hp : Fit p) :
    Calls Try.prog 24 #[pt p] w fun e w' => e = .returned (.bool (okP p)) ∧ Only [] w w' := by
  have HO := hide ((Only.refl [] w).alloc (.cells #[.int .i64 p.1, .int .i64 p.2] 24))
  have HW := hide (within_any (w.alloc (.cells #[.int .i64 p.1, .int .i64 p.2] 24)) p 16777216 (by omega) (by omega) hp.1 hp.2)
  unfold pt at *
  go_enter Try.func24, Try.ntmps24
  go_wp2_with (go_at_call 44; refine HW.out.mono ?_; rintro e w1 ⟨rfl, ho⟩; have HO1 := hide (HO.out.trans ho); clear ho)
  go_ret
  exact ⟨rfl, HO1.out⟩

def AndPost (b : Bool) (w : World) (e : Ending) (w' : World) : Prop := e = .returned (.bool b) ∧ Only [] w w'
theorem andpost {b b' : Bool} {w w' : World} (h : b = b') (ho : Only [] w w') : AndPost b w (.returned (.bool b')) w' := ⟨by rw [h], ho⟩

set_option maxRecDepth 100000 in
theorem refright_any (w : World) (p : Int × Int) :
    Calls Try.prog 11 #[pt p] w (AndPost (okP p) w) := by
  obtain ⟨x, y⟩ := p
  unfold pt okP inB
  simp only
  have hO := hide ((Only.refl [] w).alloc (.cells #[.int .i64 x, .int .i64 y] 33))
  by_cases g1 : -16777216 ≤ x
  · by_cases g2 : x ≤ 16777216
    · by_cases g3 : -16777216 ≤ y
      · by_cases g4 : y ≤ 16777216
        · rw [decide_eq_true (show -16777216 ≤ x ∧ x ≤ 16777216 ∧ -16777216 ≤ y ∧ y ≤ 16777216 from ⟨g1, g2, g3, g4⟩)]
          go_enter Try.func11, Try.ntmps11
          go_wp2_with fail
          go_ret
          exact ⟨rfl, hO.out⟩
        · rw [decide_eq_false (show ¬ (-16777216 ≤ x ∧ x ≤ 16777216 ∧ -16777216 ≤ y ∧ y ≤ 16777216) from fun h => g4 h.2.2.2)]
          have g4' : decide (y ≤ 16777216) = false := decide_eq_false g4
          clear g4
          go_enter Try.func11, Try.ntmps11
          go_wp2_with fail
          go_ret
          exact ⟨rfl, hO.out⟩
      · rw [decide_eq_false (show ¬ (-16777216 ≤ x ∧ x ≤ 16777216 ∧ -16777216 ≤ y ∧ y ≤ 16777216) from fun h => g3 h.2.2.1)]
        have g3' : decide (-16777216 ≤ y) = false := decide_eq_false g3
        clear g3
        go_enter Try.func11, Try.ntmps11
        go_wp2_with fail
        go_ret
        exact ⟨rfl, hO.out⟩
    · rw [decide_eq_false (show ¬ (-16777216 ≤ x ∧ x ≤ 16777216 ∧ -16777216 ≤ y ∧ y ≤ 16777216) from fun h => g2 h.2.1)]
      have g2' : decide (x ≤ 16777216) = false := decide_eq_false g2
      clear g2
      go_enter Try.func11, Try.ntmps11
      go_wp2_with fail
      go_ret
      exact ⟨rfl, hO.out⟩
  · rw [decide_eq_false (show ¬ (-16777216 ≤ x ∧ x ≤ 16777216 ∧ -16777216 ≤ y ∧ y ≤ 16777216) from fun h => g1 h.1)]
    have g1' : decide (-16777216 ≤ x) = false := decide_eq_false g1
    clear g1
    go_enter Try.func11, Try.ntmps11
    go_wp2_with fail
    go_ret
    exact ⟨rfl, hO.out⟩

theorem of_any (w : World) (p : Int × Int) :
    Calls Try.prog 12 #[pt p] w fun e w' => e = .returned (pt p) ∧ Only [] w w' := by
  obtain ⟨x, y⟩ := p
  unfold pt
  go_enter Try.func12, Try.ntmps12
  go_wp2_with fail
  refine bodyPost_ret (v := .agg #[.int .i64 x, .int .i64 y]) (by simp [results, Try.results12, go_sem]) rfl ⟨rfl, ?_⟩
  repeat (first | exact Only.refl _ _ | refine Only.drew ?_ | refine Only.drewN ?_ _ | refine Only.setCell ?_ (.inr (by simp)) _ | refine Only.alloc ?_ _)

theorem reffar_any (w : World) (p q : Int × Int) (hp1 : -20000000 ≤ p.1 ∧ p.1 ≤ 20000000) (hp2 : -20000000 ≤ p.2 ∧ p.2 ≤ 20000000) (hq1 : -20000000 ≤ q.1 ∧ q.1 ≤ 20000000) (hq2 : -20000000 ≤ q.2 ∧ q.2 ≤ 20000000) :
    Calls Try.prog 13 #[pt p, pt q] w fun e w' => e = .returned (.int .i64 (farV p q)) ∧ Only [] w w' := by
  obtain ⟨x, y⟩ := p
  obtain ⟨u, v⟩ := q
  unfold pt farV
  simp only at *
  have b1 := sq_bd (x := x - u) (B := 40000000) (by omega) (by omega)
  have b2 := sq_bd (x := y - v) (B := 40000000) (by omega) (by omega)
  have d1 : -40000000 ≤ x - u := by omega
  have d2 : x - u ≤ 40000000 := by omega
  have d3 : -40000000 ≤ y - v := by omega
  have d4 : y - v ≤ 40000000 := by omega
  obtain ⟨b11, b12⟩ := b1
  obtain ⟨b21, b22⟩ := b2
  go_enter Try.func13, Try.ntmps13
  go_wp2_with fail
  go_ret
  refine ⟨?_, ?_⟩
  · rfl
  repeat (first | exact Only.refl _ _ | refine Only.drew ?_ | refine Only.drewN ?_ _ | refine Only.setCell ?_ (.inr (by simp)) _ | refine Only.alloc ?_ _)

theorem small_any (w : World) (n : Int) :
    Calls Try.prog 42 #[.int .i64 n] w fun e w' => e = .returned (.bool (decide (-1000 ≤ n ∧ n ≤ 1000))) ∧ w = w' := by
  by_cases g1 : -1000 ≤ n
  · by_cases g2 : n ≤ 1000
    · rw [decide_eq_true (show -1000 ≤ n ∧ n ≤ 1000 from ⟨g1, g2⟩)]
      go_enter Try.func42, Try.ntmps42
      go_wp2_with fail
      go_ret
      exact ⟨rfl, rfl⟩
    · rw [decide_eq_false (show ¬ (-1000 ≤ n ∧ n ≤ 1000) from fun h => g2 h.2)]
      have g2' : decide (n ≤ 1000) = false := decide_eq_false g2
      clear g2
      go_enter Try.func42, Try.ntmps42
      go_wp2_with fail
      go_ret
      exact ⟨rfl, rfl⟩
  · rw [decide_eq_false (show ¬ (-1000 ≤ n ∧ n ≤ 1000) from fun h => g1 h.1)]
    have g1' : decide (-1000 ≤ n) = false := decide_eq_false g1
    clear g1
    go_enter Try.func42, Try.ntmps42
    go_wp2_with fail
    go_ret
    exact ⟨rfl, rfl⟩

theorem cx_sub {c d : Value} {x y u v : Int} (hc : Cx c x y) (hd : Cx d u v) (h1 : (x - u).natAbs < 2 ^ 53) (h2 : (y - v).natAbs < 2 ^ 53) : ∃ e, (∀ w, (binOp .sub 86 c d).run Try.prog w = .ok e w) ∧ Cx e (x - u) (y - v) := by
  obtain ⟨a, b, rfl, ha, hb⟩ := hc
  obtain ⟨a', b', rfl, ha', hb'⟩ := hd
  obtain ⟨r1, e1, f1⟩ := fi_sub ha ha' h1
  obtain ⟨r2, e2, f2⟩ := fi_sub hb hb' h2
  exact ⟨_, fun w => run_complex_sum w .sub (.inr rfl) _ .f64 a b a' b' r1 r2 (by simp [cSumBits, e1, e2]), _, _, rfl, f1, f2⟩
theorem cx_add {c d : Value} {x y u v : Int} (hc : Cx c x y) (hd : Cx d u v) (h1 : (x + u).natAbs < 2 ^ 53) (h2 : (y + v).natAbs < 2 ^ 53) : ∃ e, (∀ w, (binOp .add 86 c d).run Try.prog w = .ok e w) ∧ Cx e (x + u) (y + v) := by
  obtain ⟨a, b, rfl, ha, hb⟩ := hc
  obtain ⟨a', b', rfl, ha', hb'⟩ := hd
  obtain ⟨r1, e1, f1⟩ := fi_add ha ha' h1
  obtain ⟨r2, e2, f2⟩ := fi_add hb hb' h2
  exact ⟨_, fun w => run_complex_sum w .add (.inl rfl) _ .f64 a b a' b' r1 r2 (by simp [cSumBits, e1, e2]), _, _, rfl, f1, f2⟩
theorem cx_mul {c d : Value} {x y u v : Int} (hc : Cx c x y) (hd : Cx d u v) (h1 : (x * u).natAbs < 2 ^ 53) (h2 : (y * v).natAbs < 2 ^ 53) (h3 : (x * u - y * v).natAbs < 2 ^ 53) (h4 : (x * v).natAbs < 2 ^ 53) (h5 : (y * u).natAbs < 2 ^ 53) (h6 : (x * v + y * u).natAbs < 2 ^ 53) :
    ∃ e, (∀ w, (binOp .mul 86 c d).run Try.prog w = .ok e w) ∧ Cx e (x * u - y * v) (x * v + y * u) := by
  obtain ⟨a, b, rfl, ha, hb⟩ := hc
  obtain ⟨a', b', rfl, ha', hb'⟩ := hd
  obtain ⟨r1, e1, f1⟩ := fi_mul ha ha' h1
  obtain ⟨r2, e2, f2⟩ := fi_mul hb hb' h2
  obtain ⟨r3, e3, f3⟩ := fi_sub f1 f2 h3
  obtain ⟨r4, e4, f4⟩ := fi_mul ha hb' h4
  obtain ⟨r5, e5, f5⟩ := fi_mul hb ha' h5
  obtain ⟨r6, e6, f6⟩ := fi_add f4 f5 h6
  exact ⟨_, fun w => run_complex_mul w _ a b a' b' r3 r6 (by simp [cMulBits, e1, e2, e3, e4, e5, e6]), _, _, rfl, f3, f6⟩
end Go.Proofs.Ytkihjgcjapkgpaa

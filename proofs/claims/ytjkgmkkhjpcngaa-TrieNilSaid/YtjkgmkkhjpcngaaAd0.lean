/-
  addr.address and addr.Right: by walking.
-/
import Derived.Test.YtjkgmkkhjpcngaaChecked
import Derived.Test.YtjkgmkkhjpcngaaAdl
namespace Go.Proofs.Ytjkgmkkhjpcngaa
open Go.RowKit Go.Deep

def RetB (r : Bool) (w : World) (e : Ending) (w' : World) : Prop := e = .returned (.bool r) ∧ Only [] w w'
theorem retb {r s : Bool} {w w' : World} (h : r = s) (ho : Only [] w w') : RetB r w (.returned (.bool s)) w' := by subst h; exact ⟨rfl, ho⟩
theorem bit_retb {r s : Bool} {w : World} {e : Ending} {w' : World} (h : RetB r w e w') (hs : r = s) : RetB s w e w' := hs ▸ h
theorem results_cell_two {P : Program} {fn : Func} {p q : Tmp} {ty : TypeId} (h : fn.results = #[.cell p ty, .tmp q]) (tmps : Array Value) (w : World) (g : Nat) (t : TypeId) (cs : Array Value) (fr : Nat × Nat) (d : TypeDesc)
    (hp : tmps.getD p undef = .pointer (some ⟨g, 0, none⟩)) (hg : w.heap[g]? = some (.cells cs t fr))
    (hu : P.underlying ty = some d) (hd : (match d with | .struct _ | .array _ _ => true | _ => false) = true) (hi : (P.info? ty).map (·.size) = some cs.size) :
    (results fn tmps).run P w = .ok (.tuple #[.agg cs, tmps.getD q undef]) w := by
  have hp' : tmps[p]?.getD undef = .pointer (some ⟨g, 0, none⟩) := by simpa using hp
  simp [results, h, hp', asAddr, run_loadVar_row w g t ty cs fr d hg hu hd hi]

theorem address_is (A : Option Addr) (n cap : Nat) (r : Bool) (hr : (decide (n = 4) || decide (n = 16)) = r) (w : World) : Calls Try.prog 55 #[.slice A n cap] w fun e w' => e = .returned (.bool r) ∧ w = w' := by
  have h1 : ((n : Int) == 4) = decide (n = 4) := by
    by_cases h : n = 4
    · subst h; rfl
    · rw [decide_eq_false h, beq_eq_false_iff_ne]; omega
  have h2 : ((n : Int) == 16) = decide (n = 16) := by
    by_cases h : n = 16
    · subst h; rfl
    · rw [decide_eq_false h, beq_eq_false_iff_ne]; omega
  by_cases k1 : n = 4
  · have e1 : ((n : Int) == 4) = true := by rw [h1]; exact decide_eq_true k1
    have HB := hide (show r = true by rw [← hr, decide_eq_true k1]; rfl)
    clear h1 h2 k1 hr
    go_enter Try.func55, Try.ntmps55
    go_wp2
    go_ret
    exact ⟨by rw [HB.out]; rfl, rfl⟩
  · have e1 : ((n : Int) == 4) = false := by rw [h1]; exact decide_eq_false k1
    have HB := hide (show decide (n = 16) = r by rw [← hr, decide_eq_false k1]; rfl)
    generalize hb : decide (n = 16) = b at *
    clear h1 k1 hb hr
    go_enter Try.func55, Try.ntmps55
    go_wp2
    go_ret
    exact ⟨by rw [HB.out]; rfl, rfl⟩

def rightN (n : Nat) (b : Int) : Bool := (decide (n = 4) || decide (n = 16)) && decide (0 ≤ b) && decide (b ≤ 8 * (n : Int))
theorem right_any (A : Option Addr) (n cap : Nat) (b : Int) (r : Bool) (hr : rightN n b = r) (w : World) : Calls Try.prog 38 #[.agg #[.slice A n cap, .int .i64 b]] w fun e w' => e = .returned (.bool r) ∧ Only [] w w' := by
  have HO := hide ((Only.refl [] w).alloc (.cells #[.slice A n cap, .int .i64 b] 29))
  by_cases k1 : n = 4 ∨ n = 16
  · have HA := hide (show (decide (n = 4) || decide (n = 16)) = true by rcases k1 with rfl | rfl <;> rfl)
    by_cases k2 : 0 ≤ b
    · have HR := hide (show decide (b ≤ 8 * (n : Int)) = r by rw [← hr]; unfold rightN; rw [HA.out, decide_eq_true k2]; rfl)
      clear hr
      have k4 : 8 * (n : Int) ≤ 128 := by omega
      clear k1
      go_enter Try.func38, Try.ntmps38
      go_wp2_with (go_at_call 55; refine (address_is _ _ _ true HA.out _).mono ?_; rintro e w1 ⟨rfl, rfl⟩)
      go_ret
      exact ⟨by rw [← HR.out]; rfl, HO.out⟩
    · have HR := hide (show false = r by rw [← hr]; unfold rightN; rw [HA.out, decide_eq_false k2]; rfl)
      clear hr k1
      go_enter Try.func38, Try.ntmps38
      go_wp2_with (go_at_call 55; refine (address_is _ _ _ true HA.out _).mono ?_; rintro e w1 ⟨rfl, rfl⟩)
      go_ret
      exact ⟨by rw [HR.out]; rfl, HO.out⟩
  · have HA := hide (show (decide (n = 4) || decide (n = 16)) = false by rw [decide_eq_false (fun h => k1 (.inl h)), decide_eq_false (fun h => k1 (.inr h))]; rfl)
    have HR := hide (show false = r by rw [← hr]; unfold rightN; rw [HA.out]; rfl)
    clear hr k1
    go_enter Try.func38, Try.ntmps38
    go_wp2_with (go_at_call 55; refine (address_is _ _ _ false HA.out _).mono ?_; rintro e w1 ⟨rfl, rfl⟩)
    go_ret
    exact ⟨by rw [HR.out]; rfl, HO.out⟩
end Go.Proofs.Ytjkgmkkhjpcngaa

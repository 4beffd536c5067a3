/-
  Points and routes that came in, opened to whole numbers. Plain theorems on readings. No condition.
-/
import Derived.Test.YtkihjgcjapkgpaaSkyA
namespace Go.Proofs.Ytkihjgcjapkgpaa
open Go.RowKit Go.Deep Go.ChangeShapes Go.WideShapes Go.ChangeAt

section
variable {H : Type} {enc : TypeId × Value → H} {w : World} {base : Nat} {spare : Nat → Bool} {held : Bool}

theorem list2 {α : Type} {l : List α} (h : l.length = 2) : ∃ a b, l = [a, b] := by
  match l, h with
  | [a, b], _ => exact ⟨a, b, rfl⟩
theorem list3 {α : Type} {l : List α} (h : l.length = 3) : ∃ a b c, l = [a, b, c] := by
  match l, h with
  | [a, b, c], _ => exact ⟨a, b, c, rfl⟩

theorem dec_int {n : Nat} {cs : List Value} {o : Option (DataW H × List MemPlace)} (h : DataW.trod enc Try.prog w base spare held n 3 cs = o) (ho : o.isSome = true) : ∃ z : Int, cs = [.int .i64 z] ∧ -9223372036854775808 ≤ z ∧ z ≤ 9223372036854775807 := by
  obtain ⟨y, rfl⟩ := Option.isSome_iff_exists.1 ho
  obtain ⟨z, hz, _, hw⟩ := DataW.trod_int Try.underlying3 h
  exact ⟨z, hz, bounds_i64 hw⟩

theorem dec_pt {n : Nat} {cs : List Value} {y : DataW H × List MemPlace} (h : DataW.trod enc Try.prog w base spare held n 24 cs = some y) : ∃ p, ptc p = cs ∧ Fit p := by
  obtain ⟨xs, m, _, _, hl, hx, hf⟩ := DataW.trod_struct Try.underlying24 h
  rw [show Try.prog.cellsOf 24 = 2 from by kernel_rfl] at hl
  obtain ⟨a, b, rfl⟩ := list2 hl
  have h0 := hf 0 _ rfl
  have h1 := hf 1 _ rfl
  simp only [List.getElem_toArray, List.getElem_cons_zero, List.getElem_cons_succ, show Try.prog.cellsOf 3 = 1 from by kernel_rfl] at h0 h1
  obtain ⟨z0, e0, b0⟩ := dec_int h0 (by rw [List.getElem?_eq_getElem (by rw [hx]; decide)]; rfl)
  obtain ⟨z1, e1, b1⟩ := dec_int h1 (by rw [List.getElem?_eq_getElem (by rw [hx]; decide)]; rfl)
  simp at e0 e1
  exact ⟨(z0, z1), by rw [e0, e1]; rfl, b0, b1⟩
theorem dec_leg {n : Nat} {cs : List Value} {y : DataW H × List MemPlace} (h : DataW.trod enc Try.prog w base spare held n 83 cs = some y) : ∃ g, lgc g = cs ∧ Fit3 g := by
  obtain ⟨xs, m, _, _, hl, hx, hf⟩ := DataW.trod_struct Try.underlying83 h
  rw [show Try.prog.cellsOf 83 = 3 from by kernel_rfl] at hl
  obtain ⟨a, b, c, rfl⟩ := list3 hl
  have h0 := hf 0 _ rfl
  have h1 := hf 1 _ rfl
  simp only [List.getElem_toArray, List.getElem_cons_zero, List.getElem_cons_succ, show Try.prog.cellsOf 3 = 1 from by kernel_rfl, show Try.prog.cellsOf 24 = 2 from by kernel_rfl] at h0 h1
  rw [List.getElem?_eq_getElem (by rw [hx]; decide)] at h0
  obtain ⟨p, e0, f0⟩ := dec_pt h0
  obtain ⟨z1, e1, b1⟩ := dec_int h1 (by rw [List.getElem?_eq_getElem (by rw [hx]; decide)]; rfl)
  simp [ptc] at e0 e1
  exact ⟨(p.1, p.2, z1), by simp only [lgc]; rw [e0.1, e0.2, e1], f0.1, f0.2, b1⟩

theorem open_pt {r : Reach} {b0 : Nat} {v : Value} {d : DataW H} {ps : List MemPlace} (hv : Value.okWide Try.prog w r b0 24 v) (h : DataW.Trod enc Try.prog w base spare held 24 v d ps) : ∃ p, v = pt p ∧ Fit p := by
  obtain ⟨cs, rfl, _⟩ := okWide_struct Try.underlying24 hv
  obtain ⟨fuel, hf⟩ := h
  obtain ⟨p, hp, hfit⟩ := dec_pt hf
  refine ⟨p, ?_, hfit⟩
  have : cs = (ptc p).toArray := by rw [hp]; simp [Value.cells]
  rw [this]; rfl

theorem open_pts {A : Option Addr} {len cap : Nat} {d : DataW H} {ps : List MemPlace} (h : DataW.Trod enc Try.prog w base spare held 22 (.slice A len cap) d ps) : ∃ l, RdS 2 ptc w [] (.slice A len cap) l ∧ ∀ p ∈ l, Fit p :=
  rds_of_trod Try.underlying22 (by kernel_rfl) (by omega) h fun _ _ _ hy => dec_pt hy

theorem open_route {r : Reach} {b0 : Nat} {v : Value} {d : DataW H} {ps : List MemPlace} (hv : Value.okWide Try.prog w r b0 41 v) (h : DataW.Trod enc Try.prog w base spare held 41 v d ps) :
    ∃ (s : Int × Int) (lv : Value) (l : List Lg), v = .agg #[.int .i64 s.1, .int .i64 s.2, lv] ∧ RdS 3 lgc w [] lv l ∧ (∀ g ∈ l, Fit3 g) ∧ Fit s := by
  obtain ⟨cs, rfl, hcs⟩ := okWide_struct Try.underlying41 hv
  obtain ⟨fuel, hf⟩ := h
  obtain ⟨xs, m, _, _, hl, hx, hf⟩ := DataW.trod_struct Try.underlying41 hf
  rw [show Try.prog.cellsOf 41 = 3 from by kernel_rfl] at hl
  obtain ⟨a, b, c, hc⟩ := list3 hl
  rw [hc] at hf
  have h0 := hf 0 _ rfl
  have h1 := hf 1 _ rfl
  simp only [List.getElem_toArray, List.getElem_cons_zero, List.getElem_cons_succ, show Try.prog.cellsOf 39 = 1 from by kernel_rfl, show Try.prog.cellsOf 24 = 2 from by kernel_rfl] at h0 h1
  rw [List.getElem?_eq_getElem (by rw [hx]; decide)] at h0 h1
  obtain ⟨p, e0, f0⟩ := dec_pt h0
  simp [ptc] at e0
  have hsl : ∃ A len cap, c = .slice A len cap := by
    rcases open_slice Try.underlying39 h1 with ⟨hcs, _⟩ | ⟨a, l, c', _, _, _, _, hcs, _⟩
    · simp at hcs
      exact ⟨_, _, _, hcs⟩
    · simp at hcs
      exact ⟨_, _, _, hcs⟩
  obtain ⟨A, len, cap, rfl⟩ := hsl
  obtain ⟨l, hr, hfit⟩ := rds_of_trod (k := 3) (F := lgc) (Q := Fit3) (A := A) (len := len) (cap := cap) (d := (xs[1]'(by rw [hx]; decide)).1) (p := (xs[1]'(by rw [hx]; decide)).2) Try.underlying39 (by kernel_rfl) (by omega) ⟨m, by simpa [Value.cells] using h1⟩ (fun _ _ _ hy => dec_leg hy)
  refine ⟨p, _, l, ?_, hr, hfit, f0⟩
  have : cs = #[a, b, .slice A len cap] := by
    have : cs.toList = [a, b, .slice A len cap] := by simpa [Value.cells] using hc
    rw [← Array.toArray_toList (xs := cs), this]
  rw [this, ← e0.1, ← e0.2]
end
end Go.Proofs.Ytkihjgcjapkgpaa

/-
  Walks and plain words (texts Apo). No condition beyond those that each theorem states.
-/
import Derived.Test.YthecnaclfhfilaaDoorChecked
import Derived.Test.YthecnaclfhfilaaDoorA02
namespace Go.Proofs.YthecnaclfhfilaaDoor
section
open Go.RowKit Go.Deep Go.ChangeShapes Go.WideShapes Go.ChangeAt

theorem list_two {α : Type} {l : List α} (h : l.length = 2) : ∃ a b, l = [a, b] := by
  match l, h with
  | [a, b], _ => exact ⟨a, b, rfl⟩
theorem u8_in {n : Int} (h : (Lit.int .u8 n).wf = true) : 0 ≤ n ∧ n ≤ 255 := by
  simp only [Lit.wf, Bool.and_eq_true, decide_eq_true_eq] at h
  have e1 : IntKind.u8.min = 0 := rfl
  have e2 : IntKind.u8.max = 255 := rfl
  omega
section
variable {H : Type} {enc : TypeId × Value → H} {w : World} {base : Nat} {spare : Nat → Bool} {held : Bool}
set_option maxRecDepth 100000 in
theorem open_prefix {r : Reach} {b0 : Nat} {v : Value} {d : DataW H} {ps : List MemPlace} (hv : Value.okWide Tryd.prog w r b0 30 v) (h : DataW.Trod enc Tryd.prog w base spare held 30 v d ps) :
    ∃ (u : Value) (l : List UInt8) (b : Int), v = .agg #[u, .int .i64 b] ∧ Rd w [] u (ints .u8 (byts l)) := by
  obtain ⟨cs, rfl, hcs⟩ := okWide_struct Tryd.underlying30 hv
  obtain ⟨fuel, hf⟩ := h
  obtain ⟨xs, m, _, _, hl, hx, hf⟩ := DataW.trod_struct Tryd.underlying30 hf
  rw [show Tryd.prog.cellsOf 30 = 2 from by kernel_rfl] at hl
  obtain ⟨a, b, hc⟩ := list_two hl
  rw [hc] at hf
  have h0 := hf 0 _ rfl
  have h1 := hf 1 _ rfl
  simp only [List.getElem_toArray, List.getElem_cons_zero, List.getElem_cons_succ, show Tryd.prog.cellsOf 23 = 1 from by kernel_rfl, show Tryd.prog.cellsOf 3 = 1 from by kernel_rfl] at h0 h1
  rw [List.getElem?_eq_getElem (by rw [hx]; decide)] at h0 h1
  obtain ⟨z, hz, _, _⟩ := DataW.trod_int Tryd.underlying3 h1
  simp at hz
  have hsl : ∃ A len cap, a = .slice A len cap := by
    rcases open_slice Tryd.underlying23 h0 with ⟨hcs, _⟩ | ⟨a, l, c', _, _, _, _, hcs, _⟩
    · simp at hcs
      exact ⟨_, _, _, hcs⟩
    · simp at hcs
      exact ⟨_, _, _, hcs⟩
  obtain ⟨A, len, cap, rfl⟩ := hsl
  obtain ⟨zs, hr, hw⟩ := rd_of_trod (k := .u8) (A := A) (len := len) (cap := cap) (d := (xs[0]'(by rw [hx]; decide)).1) (p := (xs[0]'(by rw [hx]; decide)).2) Tryd.underlying23 Tryd.underlying5 (by kernel_rfl) ⟨m, by simpa [Value.cells] using h0⟩
  obtain ⟨l, rfl⟩ := byts_of zs fun n hn => u8_in (hw n hn)
  refine ⟨_, l, z, ?_, hr⟩
  have : cs = #[.slice A len cap, b] := by
    have : cs.toList = [.slice A len cap, b] := by simpa [Value.cells] using hc
    rw [← Array.toArray_toList (xs := cs), this]
  rw [this, hz]
end
end
end Go.Proofs.YthecnaclfhfilaaDoor

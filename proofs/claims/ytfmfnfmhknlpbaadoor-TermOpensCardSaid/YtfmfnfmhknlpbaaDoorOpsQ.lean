/-
  A slice of texts that came in, opened. Plain theorem on readings. No condition.
-/
import Derived.Test.YtfmfnfmhknlpbaaDoorTm5Q
import Derived.Test.YtfmfnfmhknlpbaaDoorZA
import Derived.SliceStrings
namespace Go.Proofs.YtfmfnfmhknlpbaaDoor
open Go.RowKit Go.Deep Go.ChangeShapes

section
variable {H : Type} {enc : TypeId × Value → H} {P : Program} {w : World} {base : Nat} {spare : Nat → Bool} {held : Bool}
/-- A slice of texts that came in reads as a list. -/
theorem rds_strings {t e : TypeId} {A : Option Addr} {len cap : Nat} {d : DataW H} {p : List MemPlace} (ht : P.underlying t = some (.slice e)) (he : P.underlying e = some .string) (hC : P.cellsOf e = 1)
    (h : DataW.Trod enc P w base spare held t (.slice A len cap) d p) : ∃ ss : List ByteArray, Rd w [] (.slice A len cap) (Go.Proofs.YtfmfnfmhknlpbaaDoor.strs ss) ∧ ∀ s ∈ ss, s.size ≤ maxLen := by
  obtain ⟨fuel, hf⟩ := h
  rcases open_strings ht he hC hf with ⟨hcs, _⟩ | ⟨x, l, c, zs, hcs, _, hl, hm, hz, _, hcell, hws⟩
  · simp [Value.cells] at hcs
    obtain ⟨rfl, rfl, rfl⟩ := hcs
    exact ⟨[], Rd.nil w [], by simp⟩
  · simp [Value.cells] at hcs
    obtain ⟨rfl, rfl, rfl⟩ := hcs
    have hlz : len ≤ zs.length := by
      rw [hz]
      split <;> omega
    refine ⟨zs.take len, ⟨some x, cap, by rw [strs_length, List.length_take, Nat.min_eq_left hlz], by rw [strs_length, List.length_take]; omega, hm, ?_⟩, fun s hs => hws s (List.mem_of_mem_take hs)⟩
    by_cases h0 : len = 0
    · subst h0; exact .inl rfl
    · have hc0 := hcell 0 (by omega)
      have hsp : x.spot = none := by
        have := World.cell?_spot hc0
        simpa [Addr.add] using this
      obtain ⟨g, o, sp⟩ := x
      simp only at hsp
      subst hsp
      refine .inr ⟨g, o, rfl, by simp, by have := World.block_lt_of_cell? w _ hc0; rwa [add_mk] at this, fun i y hy => ?_⟩
      simp only [Go.Proofs.YtfmfnfmhknlpbaaDoor.strs, List.getElem?_map, List.getElem?_take] at hy
      split at hy
      · have hi : i < zs.length := by omega
        rw [List.getElem?_eq_getElem hi] at hy
        simp only [Option.map_some, Option.some.injEq] at hy
        subst hy
        have := hcell i hi
        rw [add_mk] at this
        rw [this]
        simp [List.getD_eq_getElem?_getD, List.getElem?_eq_getElem hi]
      · simp at hy
end
end Go.Proofs.YtfmfnfmhknlpbaaDoor

/-
  Arguments that are slices of structs, or of integers, opened to cells. Plain theorems on readings. No condition.
-/
import Derived.Test.YtjkgmkkhjpcngaaSl
import Derived.ProofKit
import Derived.OpenShut
import Derived.Deep.Slices
import Derived.Deep.Fields
import Derived.ChangeSame
namespace Go.Proofs.Ytjkgmkkhjpcngaa
open Go.RowKit Go.ChangeShapes Go.WideShapes Go.ChangeAt Go.Deep

section
variable {H : Type} {enc : TypeId × Value → H} {P : Program} {w : World} {base : Nat} {spare : Nat → Bool} {held : Bool}
theorem open_slice_fields {t e : TypeId} {fs : Array Field} {fuel : Nat} {cs : List Value} {x : DataW H × List MemPlace} (ht : P.underlying t = some (.slice e)) (he : P.underlying e = some (.struct fs))
    (hone : oneCellFields P fs = true) (hC : P.cellsOf e = fs.size) (h : DataW.trod enc P w base spare held fuel t cs = some x) :
    (cs = [.slice none 0 0] ∧ x = (.nil, [])) ∨
    ∃ (a : Addr) (len cap m : Nat) (D : Nat → DataW H) (Pl : Nat → List MemPlace), cs = [.slice (some a) len cap] ∧ base ≤ a.block ∧ len ≤ cap ∧ cap ≤ maxLen ∧ m = (if spare a.block then cap else len) ∧
      x = (.slice ((List.range len).map D) ((List.range (m - len)).map fun j => D (len + j)), MemPlace.row a (m * fs.size) ++ (List.range m).flatMap Pl) ∧
      ∀ i, i < m → ∃ (ys : List (DataW H × List MemPlace)) (n : Nat), D i = .agg (ys.map (·.1)) ∧ Pl i = ys.flatMap (·.2) ∧ ys.length = fs.size ∧
        ∀ (j : Nat) (f : Field), fs[j]? = some f → ∃ (v : Value) (y : DataW H × List MemPlace), w.cell? (a.add (i * fs.size + j)) = some v ∧ ys[j]? = some y ∧ DataW.trod enc P w base spare held n f.type [v] = some y := by
  rcases open_slice ht h with h0 | ⟨a, len, cap, m, n, D, Pl, hcs, hb, hl, hm, hmm, hx, hi⟩
  · exact .inl h0
  · refine .inr ⟨a, len, cap, m, D, Pl, hcs, hb, hl, hm, hmm, by rw [hC] at hx; exact hx, fun i him => ?_⟩
    obtain ⟨cs', hc, ht'⟩ := hi i him
    rw [hC] at hc
    obtain ⟨ys, n', hn', hy, hlen, hyl, hf⟩ := DataW.trod_struct he ht'
    obtain ⟨_, hcl, hat⟩ := World.cells?_some hc
    simp only [Prod.mk.injEq] at hy
    refine ⟨ys, n', hy.1, hy.2, hyl, fun j f hj => ?_⟩
    obtain ⟨ho, hk⟩ := hone_of hone j f hj
    have hjl : j < fs.size := (Array.getElem?_eq_some_iff.1 hj).1
    have hcell := hat j hjl
    have hv : cs'[j]? = some (cs'[j]'(by omega)) := List.getElem?_eq_getElem (by omega)
    have h1 := hf j f hj
    rw [ho, hk] at h1
    have hone' : (cs'.drop j).take 1 = [cs'[j]'(by omega)] := by
      rw [List.drop_eq_getElem_cons (by omega)]
      rfl
    rw [hone'] at h1
    have hys : ys[j]? = some (ys[j]'(by omega)) := List.getElem?_eq_getElem (by omega)
    refine ⟨_, _, ?_, hys, h1.trans hys⟩
    rw [← Go.Deep.add_add, hcell, hv]
end

section
variable {H : Type} {enc : TypeId × Value → H} {P : Program} {w : World} {base : Nat} {spare : Nat → Bool} {held : Bool}
/-- A slice of integers that came in reads as a list. -/
theorem rd_of_trod {t e : TypeId} {k : IntKind} {A : Option Addr} {len cap : Nat} {d : DataW H} {p : List MemPlace} (ht : P.underlying t = some (.slice e)) (he : P.underlying e = some (.int k)) (hC : P.cellsOf e = 1)
    (h : DataW.Trod enc P w base spare held t (.slice A len cap) d p) : ∃ zs : List Int, Rd w [] (.slice A len cap) (ints k zs) ∧ ∀ n ∈ zs, (Lit.int k n).wf = true := by
  obtain ⟨fuel, hf⟩ := h
  rcases open_ints ht he hC hf with ⟨hcs, _⟩ | ⟨x, l, c, zs, hcs, _, hl, hm, hz, _, hcell, hwz⟩
  · simp [Value.cells] at hcs
    obtain ⟨rfl, rfl, rfl⟩ := hcs
    exact ⟨[], Rd.nil w [], by simp⟩
  · simp [Value.cells] at hcs
    obtain ⟨rfl, rfl, rfl⟩ := hcs
    have hlz : len ≤ zs.length := by
      rw [hz]
      split <;> omega
    refine ⟨zs.take len, ⟨some x, cap, by rw [ints_length, List.length_take, Nat.min_eq_left hlz], by rw [ints_length, List.length_take]; omega, hm, ?_⟩, fun n hn => hwz n (List.mem_of_mem_take hn)⟩
    by_cases h0 : len = 0
    · subst h0; exact .inl rfl
    · have hc0 := hcell 0 (by omega)
      have hsp : x.spot = none := by
        have := World.cell?_spot hc0
        simpa [Addr.add] using this
      obtain ⟨g, o, sp⟩ := x
      simp only at hsp
      subst hsp
      refine .inr ⟨g, o, rfl, by simp, by have := World.block_lt_of_cell? w _ hc0; rwa [add_mk] at this, fun i y hy => ?_⟩
      simp only [ints, List.getElem?_map, List.getElem?_take] at hy
      split at hy
      · have hi : i < zs.length := by omega
        rw [List.getElem?_eq_getElem hi] at hy
        simp only [Option.map_some, Option.some.injEq] at hy
        subst hy
        have := hcell i hi
        rw [add_mk] at this
        rw [this]
        simp [List.getD_eq_getElem?_getD, List.getElem?_eq_getElem hi]
      · simp at hy

/-- A slice of structs of one-cell fields: each field's cell, and its own reading. -/
theorem rows_of_trod {t e : TypeId} {fs : Array Field} {A : Option Addr} {len cap : Nat} {d : DataW H} {p : List MemPlace} (ht : P.underlying t = some (.slice e)) (he : P.underlying e = some (.struct fs))
    (hone : oneCellFields P fs = true) (hC : P.cellsOf e = fs.size) (hfs : 0 < fs.size) (h : DataW.Trod enc P w base spare held t (.slice A len cap) d p) :
    len ≤ cap ∧ cap ≤ maxLen ∧ ∃ V : Nat → Nat → Value, (0 < len → ∃ g o, A = some ⟨g, o, none⟩ ∧ g < w.heap.size ∧ ∀ i, i < len → ∀ j, j < fs.size → w.cell? ⟨g, o + (i * fs.size + j), none⟩ = some (V i j)) ∧
      ∀ i, i < len → ∀ (j : Nat) (f : Field), fs[j]? = some f → ∃ n y, DataW.trod enc P w base spare held n f.type [V i j] = some y := by
  obtain ⟨fuel, hf⟩ := h
  rcases open_slice_fields ht he hone hC hf with ⟨hcs, _⟩ | ⟨a, l, c, m, D, Pl, hcs, _, hl, hm, hmm, _, hi⟩
  · simp [Value.cells] at hcs
    obtain ⟨rfl, rfl, rfl⟩ := hcs
    exact ⟨Nat.le_refl _, Nat.zero_le _, fun _ _ => undef, fun h => absurd h (by omega), fun i h => absurd h (by omega)⟩
  · simp [Value.cells] at hcs
    obtain ⟨rfl, rfl, rfl⟩ := hcs
    have hlm : len ≤ m := by rw [hmm]; split <;> omega
    refine ⟨hl, hm, fun i j => (w.cell? (a.add (i * fs.size + j))).getD undef, fun h0 => ?_, fun i hlt j f hj => ?_⟩
    · obtain ⟨ys, n, _, _, _, hfld⟩ := hi 0 (by omega)
      obtain ⟨v, y, hc0, _, _⟩ := hfld 0 fs[0] (Array.getElem?_eq_getElem hfs)
      have hsp : a.spot = none := by
        have := World.cell?_spot hc0
        simpa [Addr.add] using this
      obtain ⟨g, o, sp⟩ := a
      simp only at hsp
      subst hsp
      refine ⟨g, o, rfl, by have := World.block_lt_of_cell? w _ hc0; rwa [add_mk] at this, fun i hlt j hj => ?_⟩
      obtain ⟨ys, n, _, _, _, hfld⟩ := hi i (by omega)
      obtain ⟨v, y, hc, _, _⟩ := hfld j fs[j] (Array.getElem?_eq_getElem hj)
      rw [add_mk] at hc
      simp only [add_mk, hc, Option.getD_some]
    · obtain ⟨ys, n, _, _, _, hfld⟩ := hi i (by omega)
      obtain ⟨v, y, hc, _, ht'⟩ := hfld j f hj
      exact ⟨n, y, by simpa only [hc, Option.getD_some] using ht'⟩
end
end Go.Proofs.Ytjkgmkkhjpcngaa

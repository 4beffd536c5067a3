/-
  Walks and plain words (texts Ms12, Omsg). No condition beyond those that each theorem states.
-/
import Derived.ProofKit
import Derived.OpenShut
import Derived.Deep.Slices
import Derived.Deep.Fields
import Derived.ChangeSame
import Derived.Test.YtfipdjlalfpbnaaGreatDoorM01
import Derived.Test.YtfipdjlalfpbnaaGreatDoorM06
import Derived.Test.YtfipdjlalfpbnaaGreatDoorS02
import Derived.Test.YtfipdjlalfpbnaaGreatDoorS03
namespace Go.Proofs.YtfipdjlalfpbnaaGreatDoor
section
open Go.RowKit Go.Deep

theorem macsSign_law (m : Mg) (hF : m.Fine) (hk : -9223372036854775808 ≤ m.k) (_hk2 : m.k ≤ 9223372036854775807) (p : ByteArray) (hp : p.size ≤ maxLen) (c : ByteArray) (hc : c.size ≤ maxLen) (o : ByteArray) (ho : o.size ≤ maxLen) {w : World} (htab : Tab w) :
    Calls Tryz.prog 3 #[.agg m.cells, .string p, .string c, .string o] w fun e w' => e = .returned (.bool true) ∧ Only [] w w' := by
  obtain ⟨r, hr, hB⟩ := bigh_3 m p c o
  cases r with
  | true => exact ms_big w m p c o hF hk hp hc ho htab (hide hB)
  | false =>
    obtain ⟨⟨h1, h2, h3⟩, h4⟩ := hr rfl
    cases hok : okSign m p c with
    | false => exact ms_no w m p c o hF hk hp hc ho htab (hide hB) hok
    | true => exact ms_yes w m p c o hF hk hp hc ho htab (hide hB) hok h4 h1 h2 (by rw [sign2_macd]; exact hk)
end
section
open Go.RowKit Go.Deep Go.ChangeShapes Go.WideShapes Go.ChangeAt

theorem list_13 {α : Type} {l : List α} (h : l.length = 13) : ∃ a0 a1 a2 a3 a4 a5 a6 a7 a8 a9 a10 a11 a12, l = [a0, a1, a2, a3, a4, a5, a6, a7, a8, a9, a10, a11, a12] := by
  match l, h with
  | [a0, a1, a2, a3, a4, a5, a6, a7, a8, a9, a10, a11, a12], _ => exact ⟨a0, a1, a2, a3, a4, a5, a6, a7, a8, a9, a10, a11, a12, rfl⟩
theorem u32_lt {n : Int} (h : (Lit.int .u32 n).wf = true) : ∃ x : Nat, n = x ∧ x < 4294967296 := by
  simp only [Lit.wf, Bool.and_eq_true, decide_eq_true_eq] at h
  have e1 : IntKind.u32.min = 0 := rfl
  have e2 : IntKind.u32.max = 4294967295 := rfl
  exact ⟨n.toNat, by omega, by omega⟩
theorem u64_lt {n : Int} (h : (Lit.int .u64 n).wf = true) : ∃ x : Nat, n = x ∧ x < 18446744073709551616 := by
  simp only [Lit.wf, Bool.and_eq_true, decide_eq_true_eq] at h
  have e1 : IntKind.u64.min = 0 := rfl
  have e2 : IntKind.u64.max = 18446744073709551615 := rfl
  exact ⟨n.toNat, by omega, by omega⟩
section
variable {H : Type} {enc : TypeId × Value → H} {w : World} {base : Nat} {spare : Nat → Bool} {held : Bool}
set_option maxRecDepth 100000 in
set_option maxHeartbeats 3200000 in
theorem open_msg {r : Reach} {b0 : Nat} {v : Value} {d : DataW H} {ps : List MemPlace} (hv : Value.okWide Tryz.prog w r b0 25 v) (h : DataW.Trod enc Tryz.prog w base spare held 25 v d ps) :
    ∃ m : Mg, v = .agg m.cells ∧ m.Fine ∧ -9223372036854775808 ≤ m.k ∧ m.k ≤ 9223372036854775807 := by
  obtain ⟨cs, rfl, hcs⟩ := okWide_struct Tryz.underlying25 hv
  obtain ⟨fuel, hf⟩ := h
  obtain ⟨xs, m, _, _, hl, hx, hf⟩ := DataW.trod_struct Tryz.underlying25 hf
  rw [show Tryz.prog.cellsOf 25 = 13 from by kernel_rfl] at hl
  obtain ⟨a0, a1, a2, a3, a4, a5, a6, a7, a8, a9, a10, a11, a12, hc⟩ := list_13 hl
  rw [hc] at hf
  have h0 := hf 0 _ rfl
  have h1 := hf 1 _ rfl
  have h2 := hf 2 _ rfl
  have h3 := hf 3 _ rfl
  have h4 := hf 4 _ rfl
  have h5 := hf 5 _ rfl
  have h6 := hf 6 _ rfl
  have h7 := hf 7 _ rfl
  have h8 := hf 8 _ rfl
  have h9 := hf 9 _ rfl
  have h10 := hf 10 _ rfl
  have h11 := hf 11 _ rfl
  have h12 := hf 12 _ rfl
  simp only [List.getElem_toArray, List.getElem_cons_zero, List.getElem_cons_succ, show Tryz.prog.cellsOf 3 = 1 from by kernel_rfl, show Tryz.prog.cellsOf 22 = 1 from by kernel_rfl, show Tryz.prog.cellsOf 23 = 1 from by kernel_rfl, show Tryz.prog.cellsOf 9 = 1 from by kernel_rfl] at h0 h1 h2 h3 h4 h5 h6 h7 h8 h9 h10 h11 h12
  rw [List.getElem?_eq_getElem (by rw [hx]; decide)] at h0 h1 h2 h3 h4 h5 h6 h7 h8 h9 h10 h11 h12
  obtain ⟨n0, z0, _, w0⟩ := DataW.trod_int Tryz.underlying3 h0
  obtain ⟨n1, z1, _, w1⟩ := DataW.trod_int Tryz.underlying22 h1
  obtain ⟨n2, z2, _, w2⟩ := DataW.trod_int Tryz.underlying22 h2
  obtain ⟨n3, z3, _, w3⟩ := DataW.trod_int Tryz.underlying23 h3
  obtain ⟨s4, z4, _, w4⟩ := DataW.trod_string Tryz.underlying9 h4
  obtain ⟨s5, z5, _, w5⟩ := DataW.trod_string Tryz.underlying9 h5
  obtain ⟨s6, z6, _, w6⟩ := DataW.trod_string Tryz.underlying9 h6
  obtain ⟨s7, z7, _, w7⟩ := DataW.trod_string Tryz.underlying9 h7
  obtain ⟨s8, z8, _, w8⟩ := DataW.trod_string Tryz.underlying9 h8
  obtain ⟨s9, z9, _, w9⟩ := DataW.trod_string Tryz.underlying9 h9
  obtain ⟨s10, z10, _, w10⟩ := DataW.trod_string Tryz.underlying9 h10
  obtain ⟨s11, z11, _, w11⟩ := DataW.trod_string Tryz.underlying9 h11
  obtain ⟨s12, z12, _, w12⟩ := DataW.trod_string Tryz.underlying9 h12
  simp at z0 z1 z2 z3 z4 z5 z6 z7 z8 z9 z10 z11 z12
  obtain ⟨s, rfl, hs⟩ := u32_lt w1
  obtain ⟨r2, rfl, hr⟩ := u32_lt w2
  obtain ⟨c, rfl, hcc⟩ := u64_lt w3
  have bk := bounds_i64 w0
  refine ⟨⟨n0, s, r2, c, s4, s5, s6, s7, s8, s9, s10, s11, s12⟩, ?_, ⟨hs, hr, hcc, w4, w5, w6, w7, w8, w9, w10, w11, w12⟩, bk.1, bk.2⟩
  have : cs = #[a0, a1, a2, a3, a4, a5, a6, a7, a8, a9, a10, a11, a12] := by
    have : cs.toList = [a0, a1, a2, a3, a4, a5, a6, a7, a8, a9, a10, a11, a12] := by simpa [Value.cells] using hc
    rw [← Array.toArray_toList (xs := cs), this]
  rw [this, z0, z1, z2, z3, z4, z5, z6, z7, z8, z9, z10, z11, z12]
  rfl
end
end
end Go.Proofs.YtfipdjlalfpbnaaGreatDoor

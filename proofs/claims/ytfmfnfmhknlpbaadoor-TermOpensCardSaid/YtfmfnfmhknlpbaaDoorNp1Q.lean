/-
  num.Print: the decimal text of a number, by walking over the library's own formatting (its inner functions by the shelf's contracts). Condition: the library's table of powers of ten reads as it was laid.
-/
import Derived.Test.YtfmfnfmhknlpbaaDoorHexQ
import Derived.Test.YtfmfnfmhknlpbaaDoorShelf
import Derived.Lib.ItoaMem
namespace Go.Proofs.YtfmfnfmhknlpbaaDoor
open Go.RowKit Go.Deep Go.Sort Go.Lib

/-- The table of powers of ten, as laid. -/
def Tab (w : World) : Prop := Lib.TabIs Tryd.prog w "internal/strconv.uint64pow10" .u64 Lib.pow10Tab
theorem Tab.only {S : List Nat} {w w' : World} (h : Tab w) (ho : Only S w w') (hS : ∀ x ∈ S, w.heap.size ≤ x) : Tab w' := by
  unfold Tab Lib.TabIs at h ⊢
  unfold World.var? at h ⊢
  cases hg : Tryd.prog.globalNamed "internal/strconv.uint64pow10" with
  | none => rw [hg] at h; simp at h
  | some g =>
    rw [hg] at h
    simp only [Option.bind_some] at h ⊢
    have hlt : g < w.heap.size := by
      rcases Nat.lt_or_ge g w.heap.size with h' | h'
      · exact h'
      · rw [Array.getElem?_eq_none h'] at h; simp at h
    rw [ho.block g hlt (fun hx => by have := hS g hx; omega)]
    exact h

theorem only_grow (w : World) (os : Array Obj) : Only [] w (grow w os) := ⟨rfl, rfl, rfl, by simp [grow], fun i hi _ => by simp [grow, Array.getElem?_append_left hi]⟩
def bv8 : UInt8 → Value := fun b => Value.int .u8 (b.toNat : Int)
theorem holds_zero0 (w : World) (T : TypeId) (nd : Nat) (hs : nd ≤ 24) : Holds (fun (b : UInt8) => Value.int .u8 (b.toNat : Int)) (w.alloc (.cells Lib.zeros24 T)) w.heap.size 0 (Array.replicate nd (0 : UInt8)) := fun j hj => by
  have hj' : j < nd := by simpa using hj
  refine ⟨?_, World.frozen?_alloc_new _ _ _ _⟩
  rw [World.cell?_alloc_new, Nat.zero_add, Lib.zeros24_at _ (by omega), getElem!_pos _ j hj]
  simp

set_option maxHeartbeats 6400000 in
set_option maxRecDepth 100000 in
theorem format_uint (u : Nat) (hu64 : u < 18446744073709551616) (w : World) (htab : Tab w) :
    Calls Tryd.prog 135 #[.int .u64 u, .int .i64 10] w (StrPost (Lib.decDigits u) w) := by
  by_cases hs : u < 100
  · have hs' : (u : Int) < 100 := by omega
    go_enter Tryd.func135, Tryd.ntmps135
    go_wp2_with (go_at_call 140; refine (Tryd.internal_strconv_small u hs _).mono ?_; rintro e w' ⟨rfl, rfl⟩)
    go_ret
    exact strpost rfl (Only.refl _ _)
  · have hs' : ¬ (u : Int) < 100 := by omega
    have hu1 : 1 ≤ u := by omega
    have hnd20 : Lib.nDigits u ≤ 20 := by have := Lib.numDigits_eq u hu1 hu64; split at this <;> omega
    have hal : Tryd.prog.arrayLen 169 = 24 := by kernel_rfl
    have hsl1 : ∀ W, (Instr.sliceAt 169 (.pointer (some ⟨w.heap.size, 0, none⟩)) none (some (.int .i64 (Lib.nDigits u : Int))) none).run Tryd.prog W = .ok (.slice (some ⟨w.heap.size, 0, none⟩) (Lib.nDigits u) 24) W := fun W => by
      rw [run_sliceAt_array_h W 169 ⟨w.heap.size, 0, none⟩ (by simp [Program.arrayLen, Program.elem, Tryd.underlying169]) .i64 (Lib.nDigits u : Int) (by omega) (by rw [hal]; omega)]
      go_simp
    have hH0 := holds_zero0 w 169 (Lib.nDigits u) (by omega)
    have hfmt := Tryd.internal_strconv_formatBase10 w.heap.size 0 24 u (Array.replicate (Lib.nDigits u) 0) (w.alloc (.cells Lib.zeros24 169)) hH0 (by rw [Array.size_replicate]; exact Lib.lt_pow_nDigits u) hu64 (by rw [Array.size_replicate]; omega)
    rw [Array.size_replicate] at hfmt
    have HH0 := Lib.hid hH0
    have HT := Lib.hid (Lib.tabIs_alloc htab (.cells Lib.zeros24 169))
    clear hH0 hal htab
    go_enter Tryd.func135, Tryd.ntmps135
    go_wp2_with (go_at_call 141; refine (Tryd.internal_strconv_numDigits u hu1 hu64 _ HT.out).mono ?_; rintro e w' ⟨rfl, rfl⟩)
    refine hfmt.mono ?_
    rintro e w' ⟨rfl, k, v', dk, hw', hF⟩
    have hcv : (convert 30 9 (.slice (some ⟨w.heap.size, 0, none⟩) (Lib.nDigits u) 24)).run Tryd.prog w' = .ok (.string ⟨(Lib.decDigits u).toArray⟩) w' := by
      have h := run_convert_bytes_back (P := Tryd.prog) w' 30 9 5 ⟨w.heap.size, 0, none⟩ 24 (Lib.decDigits u) Tryd.underlying30 Tryd.underlying5 Tryd.underlying9 (fun j hj => by
        rw [Lib.row_is_numeral hF j hj, Lib.add_plain, hw', World.cell?_drewN]
        exact cell?_putRow (fun (b : UInt8) => Value.int .u8 (b.toNat : Int)) _ w.heap.size 0 _ dk HH0.out (by rw [hF.size, Array.size_replicate]) j (by rw [hF.size]; rw [Lib.decDigits_length] at hj; exact hj))
      rw [Lib.decDigits_length] at h
      exact h
    have HO := hide (show Only [] w w' by
      rw [hw', alloc_eq_grow]
      obtain ⟨os', _, e⟩ := putRow_grow_new (fun (b : UInt8) => Value.int .u8 (b.toNat : Int)) w #[.cells Lib.zeros24 169] w.heap.size 0 dk (Nat.le_refl _)
      rw [e]
      exact (only_grow w os').drewN k)
    clear hw' hF hfmt
    go_wp2_with fail
    go_ret
    exact strpost rfl HO.out

set_option maxHeartbeats 1600000 in
theorem print_any (u : Nat) (hu64 : u < 18446744073709551616) (w : World) (htab : Tab w) :
    Calls Tryd.prog 88 #[.int .u64 u] w (StrPost (Lib.decDigits u) w) := by
  have HF := hide (format_uint u hu64 w htab)
  clear hu64 htab
  go_enter Tryd.func88, Tryd.ntmps88
  go_wp2_with (first
    | (go_at_call 135; refine HF.out.mono ?_; rintro e w1 ⟨rfl, ho⟩; have HO := hide ho; clear ho)
    | go_in)
  go_ret
  exact strpost rfl HO.out
end Go.Proofs.YtfmfnfmhknlpbaaDoor

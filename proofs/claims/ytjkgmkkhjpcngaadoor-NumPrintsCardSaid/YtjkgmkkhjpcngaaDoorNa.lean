/-
  The layer's own facts (awake), and the laws NumReads and NumPrints, by walking. Condition: the library's table of powers of ten reads as it was laid.
-/
import Derived.Test.YtjkgmkkhjpcngaaDoorNl
import Derived.Test.YtjkgmkkhjpcngaaDoorSame01
namespace Go.Proofs.YtjkgmkkhjpcngaaDoor
open Go.RowKit Go.Deep

theorem read_01 (w : World) : Calls Tryd.prog 10 #[.string ⟨#[48, 49]⟩] w fun e w' => e = .returned (.tuple #[.int .u64 0, .int .i64 3]) ∧ Only [] w w' :=
  (num_read w ⟨#[48, 49]⟩ (by decide)).mono fun e w' h => ⟨h.1, h.2⟩
theorem byts_two : byts [10, 255] = [10, 255] := by decide
theorem hex_0aff (w : World) : Calls Tryd.prog 16 #[.slice (some ⟨w.heap.size, 0, none⟩) 2 2] (w.alloc (.cells #[.int .u8 10, .int .u8 255] 5)) fun e w' => e = .returned (.string ⟨#[48, 97, 102, 102]⟩) ∧ Only [] w w' := by
  have hr : Rd (w.alloc (.cells #[.int .u8 10, .int .u8 255] 5)) [] (.slice (some ⟨w.heap.size, 0, none⟩) 2 2) (ints .u8 (byts [10, 255])) := by
    rw [byts_two]
    exact rd_new w 5 [] [.int .u8 10, .int .u8 255] (fun x hx => by cases hx) (by simp [maxLen])
  refine (num_hex _ [] _ [10, 255] hr (by simp)).mono fun e w' h => ?_
  obtain ⟨rfl, ho⟩ := h
  refine ⟨?_, ((Only.refl [] w).alloc _).trans ho⟩
  rw [show hexS [10, 255] = [48, 97, 102, 102] by decide]

set_option maxHeartbeats 3200000 in
theorem awake01 (w : World) : Calls Tryd.prog 9 #[] w fun e w' => e = .returned (.bool true) ∧ Only [] w w' := by
  go_enter Tryd.func9, Tryd.ntmps9
  go_wp2_with (first
    | (go_at_call 10; refine (read_01 _).mono ?_; rintro e w1 ⟨rfl, ho1⟩; have HO1 := hide ho1; clear ho1)
    | (go_at_call 16; refine (hex_0aff _).mono ?_; rintro e w2 ⟨rfl, ho2⟩; have HO2 := hide ho2; clear ho2))
  go_ret
  exact ⟨rfl, HO1.out.trans HO2.out⟩
end Go.Proofs.YtjkgmkkhjpcngaaDoor

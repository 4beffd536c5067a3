/-
  The reference's Make of an Atom, and its source: by walking.
-/
import Derived.Test.YtjkgmkkhjpcngaaDoorRc
namespace Go.Proofs.YtjkgmkkhjpcngaaDoor
open Go.RowKit Go.Deep

set_option maxRecDepth 100000 in
set_option maxHeartbeats 3200000 in
theorem refmake_atom (n : Nat) (hn : n ≤ 4294967295) (w : World) : Calls Tryd.prog 60 #[.int .i64 2, .int .u64 n, .slice none 0 0, .slice none 0 0] w fun e w' => e = .returned (.string (atomS n)) ∧ Only [] w w' := by
  have HP := hide (fun W => print_ref n (by omega) W)
  have HI := hide (is_two (atomS n) n (atomS_t n hn))
  have HE := hide (cat_atom n)
  have hsl : ∀ W, (Instr.sliceAt 9 (.string ⟨#[48, 97, 110, 120, 112, 100, 104, 107, 109, 115, 108]⟩) (some (.int .i64 1)) (some (.int .i64 2)) none).run Tryd.prog W = .ok (.string ⟨#[97]⟩) W := fun W => by kernel_rfl
  have hcat : (⟨#[97]⟩ : ByteArray) ++ ⟨(Lib.decDigits n).toArray⟩ = atomS n := cat_atom n
  have hln : ¬ 9223372036854775807 < 1 + (Lib.decDigits n).length := by have := dec_len n (by omega); omega
  clear hn
  go_enter Tryd.func60, Tryd.ntmps60
  go_wp2_with (first
    | (go_at_call 17; refine (HP.out _).mono ?_; rintro e w1 ⟨rfl, ho⟩; have HC := hide ho; clear ho)
    | (go_at_call 71; refine (HI.out _).mono ?_; rintro e w2 ⟨rfl, ho⟩; have HC := hide (HC.out.trans ho); clear ho))
  go_ret
  exact ⟨rfl, HC.out⟩
theorem ref_atom (n : Nat) (hn : n ≤ 4294967295) (w : World) : Calls Tryd.prog 48 #[.int .u32 n] w fun e w' => e = .returned (.string (atomS n)) ∧ Only [] w w' := by
  have HM := hide (fun W => refmake_atom n hn W)
  have hw : IntKind.u64.wrap (n : Int) = n := by rw [IntKind.wrap_u64]; omega
  clear hn
  go_enter Tryd.func48, Tryd.ntmps48
  go_wp2_with (go_at_call 60; refine (HM.out _).mono ?_; rintro e w1 ⟨rfl, ho⟩; have HC := hide ho; clear ho)
  go_ret
  exact ⟨rfl, HC.out⟩

abbrev RefIs (w : World) (g a i m : Nat) : Prop := Blk w g 50 (srcC a i m)
theorem refsecret_end (w : World) (g i m : Nat) (hS : RefIs w g 4294967295 i m) :
    Calls Tryd.prog 31 #[.pointer (some ⟨g, 0, none⟩)] w fun e w' => e = .returned (.tuple #[.string ⟨#[]⟩, .int .i64 10]) ∧ w = w' := by
  have k0 : w.cell? ⟨g, 0, none⟩ = some (.int .u32 4294967295) := hS.cell 0
  clear hS
  go_enter Tryd.func31, Tryd.ntmps31
  go_wp2
  go_ret2
  exact ⟨rfl, rfl⟩
theorem refsecret_more (B g a i m : Nat) (w : World) (ha : a < 4294967295) (hS : RefIs w g a i m) (hg : B ≤ g) (hB : B ≤ w.heap.size) :
    Calls Tryd.prog 31 #[.pointer (some ⟨g, 0, none⟩)] w fun e w' => e = .returned (.tuple #[.string (atomS a), .int .i64 0]) ∧ RefIs w' g (a + 1) i m ∧ Below B w w' ∧ Only [g] w w' := by
  have k0 : w.cell? ⟨g, 0, none⟩ = some (.int .u32 (a : Int)) := hS.cell 0
  have f0 := hS.frozen 0
  have HS := hide (show RefIs (w.setCell ⟨g, 0, none⟩ (.int .u32 ((a + 1 : Nat) : Int))) g (a + 1) i m from hS.set_ 0 _)
  have HC := hide ((Below.refl B w).setCell (p := ⟨g, 0, none⟩) hg (.int .u32 ((a + 1 : Nat) : Int)))
  have HM := hide (fun W => ref_atom a (by omega) W)
  have HB := hide hB
  have hne : ((a : Int) == 4294967295) = false := by rw [beq_eq_false_iff_ne]; omega
  have hw : IntKind.u32.wrap ((a : Int) + 1) = ((a + 1 : Nat) : Int) := by rw [IntKind.wrap_u32]; omega
  have hw2 : IntKind.u32.wrap (((a + 1 : Nat) : Int) - 1) = (a : Int) := by rw [IntKind.wrap_u32]; omega
  have hw3 : IntKind.u32.wrap ((a : Int) + 1 - 1) = (a : Int) := by rw [IntKind.wrap_u32]; omega
  have hw4 : IntKind.u32.wrap (a : Int) = (a : Int) := by rw [IntKind.wrap_u32]; omega
  clear hS hB hg
  go_enter Tryd.func31, Tryd.ntmps31
  go_wp2_with (go_at_call 48; refine (HM.out _).mono ?_; rintro e w2 ⟨rfl, ho⟩; have HD := hide ho; clear ho)
  go_ret2
  exact ⟨rfl, Blk.below (B := g + 1) HS.out (below_of_only HD.out HS.out.lt) (Nat.lt_succ_self g), HC.out.trans (below_of_only HD.out (Nat.le_trans HB.out HC.out.size)), ((Only.refl [g] w).setCell (p := ⟨g, 0, none⟩) (.inl (by simp)) _).trans (HD.out.mono (by simp))⟩
theorem refnum_end (w : World) (g a m : Nat) (hS : RefIs w g a 4294967295 m) :
    Calls Tryd.prog 33 #[.pointer (some ⟨g, 0, none⟩)] w fun e w' => e = .returned (.tuple #[.int .u32 0, .int .i64 10]) ∧ w = w' := by
  have k0 : w.cell? ⟨g, 1, none⟩ = some (.int .u32 4294967295) := hS.cell 1
  clear hS
  go_enter Tryd.func33, Tryd.ntmps33
  go_wp2
  go_ret2
  exact ⟨rfl, rfl⟩
theorem refnum_more (B g a i m : Nat) (w : World) (hi : i < 4294967295) (hS : RefIs w g a i m) (hg : B ≤ g) :
    Calls Tryd.prog 33 #[.pointer (some ⟨g, 0, none⟩)] w fun e w' => e = .returned (.tuple #[.int .u32 (i : Int), .int .i64 0]) ∧ RefIs w' g a (i + 1) m ∧ Below B w w' ∧ Only [g] w w' := by
  have k0 : w.cell? ⟨g, 1, none⟩ = some (.int .u32 (i : Int)) := hS.cell 1
  have f0 := hS.frozen 1
  have HS := hide (show RefIs (w.setCell ⟨g, 1, none⟩ (.int .u32 ((i + 1 : Nat) : Int))) g a (i + 1) m from hS.set_ 1 _)
  have HC := hide ((Below.refl B w).setCell (p := ⟨g, 1, none⟩) hg (.int .u32 ((i + 1 : Nat) : Int)))
  have hne : ((i : Int) == 4294967295) = false := by rw [beq_eq_false_iff_ne]; omega
  have hw : IntKind.u32.wrap ((i : Int) + 1) = ((i + 1 : Nat) : Int) := by rw [IntKind.wrap_u32]; omega
  have hw2 : IntKind.u32.wrap (((i + 1 : Nat) : Int) - 1) = (i : Int) := by rw [IntKind.wrap_u32]; omega
  have hw3 : IntKind.u32.wrap ((i : Int) + 1 - 1) = (i : Int) := by rw [IntKind.wrap_u32]; omega
  clear hS hg
  go_enter Tryd.func33, Tryd.ntmps33
  go_wp2
  go_ret2
  exact ⟨rfl, HS.out, HC.out, (Only.refl [g] w).setCell (p := ⟨g, 1, none⟩) (.inl (by simp)) _⟩
end Go.Proofs.YtjkgmkkhjpcngaaDoor

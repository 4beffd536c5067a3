/-
  The reference's reading of an Atom's text: at, kind, word, by walking.
-/
import Derived.Test.YtjkgmkkhjpcngaaDoorSn
import Derived.Test.YtjkgmkkhjpcngaaDoorNl
namespace Go.Proofs.YtjkgmkkhjpcngaaDoor
open Go.RowKit Go.Deep

/-- The text of an Atom: a letter, digits. -/
structure AtT (s : ByteArray) (n : Nat) : Prop where
  one : 1 < s.size
  few : s.size ≤ 21
  head : ∀ h : 0 < s.size, (s[0]'h).toNat = 97
  tail : ∀ i (h : i < s.size), 1 ≤ i → s[i].toNat ≠ 44 ∧ s[i].toNat ≠ 41
  read : numR (s.extract 1 s.size).data.toList = (n, 0)
  num : n ≤ 4294967295

theorem at_head (s : ByteArray) (n : Nat) (h : AtT s n) (w : World) : Calls Tryd.prog 93 #[.string s, .int .i64 0] w fun e w' => e = .returned (.int .u8 97) ∧ w = w' := by
  have h1 := h.one
  have h2 : ¬ (s.size : Int) ≤ 0 := by omega
  have h3 : 0 < s.size := by omega
  have h4 := h.head h3
  have h5 : (((s[0]'h3).toNat : Nat) : Int) = 97 := by omega
  clear h h4
  go_enter Tryd.func93, Tryd.ntmps93
  go_wp2
  · rename_i he
    exfalso
    rw [he] at h1
    exact absurd h1 (by decide)
  · go_ret
    exact ⟨rfl, rfl⟩

set_option maxRecDepth 100000 in
theorem kind_two (w : World) : Calls Tryd.prog 92 #[.int .u8 97] w fun e w' => e = .returned (.int .i64 2) ∧ w = w' := by
  have i0 : ∀ W, (Instr.index 9 (.string ⟨#[48, 97, 110, 120, 112, 100, 104, 107, 109, 115, 108]⟩) (.int .i64 0)).run Tryd.prog W = .ok (.int .u8 48) W := fun W => by kernel_rfl
  have i1 : ∀ W, (Instr.index 9 (.string ⟨#[48, 97, 110, 120, 112, 100, 104, 107, 109, 115, 108]⟩) (.int .i64 1)).run Tryd.prog W = .ok (.int .u8 97) W := fun W => by kernel_rfl
  go_enter Tryd.func92, Tryd.ntmps92
  go_wp2_with fail
  refine wp_loop_rounds 2 ?_
  rw [rounds_succ]
  go_wp2_with fail
  rw [rounds_succ]
  go_wp2_with fail
  go_ret
  exact ⟨rfl, rfl⟩

set_option maxRecDepth 100000 in
theorem word_ref (s : ByteArray) (n : Nat) (h : AtT s n) (w : World) : Calls Tryd.prog 95 #[.string s, .int .i64 1] w fun e w' => e = .returned (.tuple #[.string (s.extract 1 s.size), .int .i64 s.size]) ∧ w = w' := by
  have h1 := h.one
  have h2 := h.few
  have HT := hide h.tail
  clear h
  go_enter Tryd.func95, Tryd.ntmps95
  go_wp2_with fail
  go_loop [1] (fun i => ∃ k : Nat, 1 ≤ k ∧ k ≤ s.size ∧ i = .int .i64 k) (fun i => s.size - (intOf i).toNat)
  case atStart => exact ⟨1, Nat.le_refl _, by omega, rfl⟩
  case round =>
    obtain ⟨k, hk1, hk, rfl⟩ := hrel
    by_cases hlt : k < s.size
    · have hltI : (k : Int) < s.size := by omega
      have hc := HT.out k hlt hk1
      have hc1 : ((s[k].toNat : Int) != 44) = true := by rw [bne_iff_ne]; omega
      have hc2 : ((s[k].toNat : Int) != 41) = true := by rw [bne_iff_ne]; omega
      clear hc
      go_wp2_with fail
      go_round
      case rel => exact ⟨k + 1, by omega, by omega, by go_num⟩
      case measure => simp [intOf]; omega
    · obtain rfl : k = s.size := by omega
      have hge : ¬ (s.size : Int) < s.size := by omega
      have hle : (1 : Int) ≤ s.size := by omega
      go_wp2_with fail
      go_ret2
      exact ⟨rfl, rfl⟩
end Go.Proofs.YtjkgmkkhjpcngaaDoor

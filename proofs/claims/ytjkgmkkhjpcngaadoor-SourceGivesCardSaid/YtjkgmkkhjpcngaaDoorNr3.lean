/-
  The reference's value and ReadHex, by walking. Condition: the text has at most 1,000,000 bytes.
-/
import Derived.Test.YtjkgmkkhjpcngaaDoorNr2
namespace Go.Proofs.YtjkgmkkhjpcngaaDoor
open Go.RowKit Go.Deep

def valV (c : UInt8) : Nat := if hexB c = true then nib c else 16
theorem hd_eq (n : Nat) (h : n < 16) (c : UInt8) : (hd n).toNat = c.toNat ↔ (hexB c = true ∧ nib c = n) := by
  rw [hd_nat n h]
  have hc := c.toNat_lt
  unfold hexB nib signV
  by_cases h1 : n < 10
  · rw [if_pos h1]
    constructor
    · intro e
      rw [if_pos (by omega)]
      exact ⟨by simp; omega, by omega⟩
    · rintro ⟨a, b⟩
      split at b
      · omega
      · split at b <;> rename_i h2 h3
        · omega
        · simp only [h2, h3, if_false] at a
          simp at a
  · rw [if_neg h1]
    constructor
    · intro e
      rw [if_neg (by omega), if_pos (by omega)]
      exact ⟨by simp; omega, by omega⟩
    · rintro ⟨a, b⟩
      split at b
      · omega
      · split at b <;> rename_i h2 h3
        · omega
        · omega

set_option maxHeartbeats 3200000 in
theorem value_any (c : UInt8) (w : World) : Calls Tryd.prog 38 #[.int .u8 (c.toNat : Int)] w fun e w' => e = .returned (.int .u8 (valV c : Nat)) ∧ w = w' := by
  go_enter Tryd.func38, Tryd.ntmps38
  go_wp2_with fail
  go_loop [3] (fun i => ∃ k : Nat, k ≤ 16 ∧ i = .int .u8 k ∧ Hid (∀ m, m < k → (hd m).toNat ≠ c.toNat)) (fun i => 16 - (intOf i).toNat)
  case atStart => exact ⟨0, by omega, rfl, hide (fun m h => by omega)⟩
  case round =>
    obtain ⟨k, hk, rfl, hne⟩ := hrel
    by_cases hlt : k < 16
    · have hlt' : (k : Int) < 16 := by omega
      have HD := hide (fun W => digit_any k hlt W)
      by_cases he : (hd k).toNat = c.toNat
      · have HV := hide (show valV c = k by
          have := (hd_eq k hlt c).1 he
          unfold valV; rw [if_pos this.1]; exact this.2)
        have heb : (((hd k).toNat : Int) == (c.toNat : Int)) = true := by rw [beq_iff_eq]; omega
        have heb2 : ((hd k).toNat == c.toNat) = true := by simpa using he
        clear he
        generalize (hd k).toNat = y at *
        go_wp2_with (go_at_call 40; refine (HD.out _).mono ?_; rintro e w' ⟨rfl, rfl⟩)
        go_ret
        exact ⟨ret_i (by rw [HV.out]), rfl⟩
      · have heb : (((hd k).toNat : Int) == (c.toNat : Int)) = false := by rw [beq_eq_false_iff_ne]; omega
        have heb2 : ((hd k).toNat == c.toNat) = false := by simpa using he
        have HN := hide (show ∀ m, m < k + 1 → (hd m).toNat ≠ c.toNat from fun m hm => by
          by_cases e : m = k
          · subst e; exact he
          · exact hne.out m (by omega))
        clear he
        generalize (hd k).toNat = y at heb heb2 HD
        go_wp2_with (go_at_call 40; refine (HD.out _).mono ?_; rintro e w' ⟨rfl, rfl⟩)
        go_round
        case rel => exact ⟨k + 1, by omega, by go_num, HN⟩
        case measure => simp [intOf]; omega
    · obtain rfl : k = 16 := by omega
      have HV := hide (show valV c = 16 by
        unfold valV
        split
        · rename_i hx
          exact absurd ((hd_eq (nib c) (nib_lt c) c).2 ⟨hx, rfl⟩) (hne.out _ (nib_lt c))
        · rfl)
      go_wp2_with fail
      go_ret
      exact ⟨ret_i (by rw [HV.out]; rfl), rfl⟩
end Go.Proofs.YtjkgmkkhjpcngaaDoor

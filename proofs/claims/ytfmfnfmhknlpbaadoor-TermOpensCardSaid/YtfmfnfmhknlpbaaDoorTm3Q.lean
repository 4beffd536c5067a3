/-
  The reader's word: what stands up to a comma, a bracket, or the end. Condition: the reader's block is known whole, the text is no longer than a slice may be.
-/
import Derived.Test.YtfmfnfmhknlpbaaDoorTm2Q
namespace Go.Proofs.YtfmfnfmhknlpbaaDoor
open Go.RowKit Go.Deep

def WordPost (g : Nat) (s : ByteArray) (p : Nat) (w : World) (e : Ending) (w' : World) : Prop :=
  e = .returned (.string (s.extract p (wend s p))) ∧ At g s (wend s p) w' ∧ Only [g] w w'

theorem byte_lt (c : UInt8) : c.toNat < 256 := c.toNat_lt
theorem ne_of_nat {c : UInt8} {n : Nat} (h : (c == UInt8.ofNat n) = false) (hn : n < 256) : ((c.toNat : Int) != n) = true := by
  have h1 : c.toNat ≠ n := by
    intro e
    subst e
    simp at h
  simp only [bne_iff_ne, ne_eq]
  omega
theorem del_false {c : UInt8} (h : del c = false) : ((c.toNat : Int) != 44) = true ∧ ((c.toNat : Int) != 41) = true ∧ ((c.toNat : Int) != 40) = true := by
  unfold del at h
  simp only [Bool.or_eq_false_iff] at h
  exact ⟨ne_of_nat (n := 44) h.1.1 (by decide), ne_of_nat (n := 41) h.1.2 (by decide), ne_of_nat (n := 40) h.2 (by decide)⟩
theorem del_true {c : UInt8} (h : del c = true) : ((c.toNat : Int) != 44) = false ∨ (((c.toNat : Int) != 44) = true ∧ ((c.toNat : Int) != 41) = false) ∨
    (((c.toNat : Int) != 44) = true ∧ ((c.toNat : Int) != 41) = true ∧ ((c.toNat : Int) != 40) = false) := by
  unfold del at h
  simp only [Bool.or_eq_true, beq_iff_eq] at h
  rcases h with (h | h) | h
  · subst h; exact .inl rfl
  · subst h; exact .inr (.inl ⟨rfl, rfl⟩)
  · subst h; exact .inr (.inr ⟨rfl, rfl, rfl⟩)
theorem word_end {g : Nat} {s : ByteArray} {p j : Nat} {w w' : World} (h : wend s p = j) (hb : At g s j w') (ho : Only [g] w w') : WordPost g s p w (.returned (.string (s.extract p j))) w' := by
  subst h; exact ⟨rfl, hb, ho⟩

set_option maxRecDepth 100000 in
set_option maxHeartbeats 3200000 in
theorem word_any (w : World) (g : Nat) (s : ByteArray) (p : Nat) (hb : At g s p w) (hp : p ≤ s.size) (hs : s.size ≤ maxLen) :
    Calls Tryd.prog 127 #[.pointer (some ⟨g, 0, none⟩)] w (WordPost g s p w) := by
  unfold maxLen at hs
  have HB := hide hb
  have k0 := hb.cell 0
  have k1 := hb.cell 1
  simp at k0 k1
  clear hb
  go_enter Tryd.func127, Tryd.ntmps127
  go_wp2_with fail
  clear k0 k1
  go_loopg [] (s.size - p) (fun gk wr => ∃ j : Nat, p ≤ j ∧ j ≤ s.size ∧ gk + j = s.size ∧ Hid (wend s j = wend s p) ∧ Hid (At g s j wr) ∧ Hid (Only [g] w wr))
  case atStart => exact ⟨p, Nat.le_refl _, hp, by omega, hide rfl, HB, hide (Only.refl _ _)⟩
  case round =>
    obtain ⟨j, hpj, hj, hgk, hw, HA, HO⟩ := hrel
    have k0 := HA.out.cell 0
    have k1 := HA.out.cell 1
    have f1 := HA.out.frozen 1
    simp at k0 k1
    have HG := hide hgk
    clear hgk
    by_cases hlt : j < s.size
    · have hlt' : (j : Int) < s.size := by omega
      have hd : decide (j < s.size) = true := decide_eq_true hlt
      cases hc : del s[j] with
      | false =>
        have HS := hide (wend_step s j hlt hc)
        obtain ⟨h1, h2, h3⟩ := del_false hc
        clear hc
        go_wp2_with fail
        go_quiet (fail)
        go_wp2_with fail
        go_roundg (gk - 1)
        case rel => exact ⟨j + 1, by omega, by omega, by have := HG.out; omega, hide (HS.out.trans hw.out), hide (HA.out.drewN _ |>.set_ 1 _), hide ((HO.out.drewN _).setCell (p := ⟨g, 1, none⟩) (.inl (by simp)) _)⟩
        case measure => have := HG.out; omega
      | true =>
        have HS := hide ((wend_stop s j hlt hc).symm.trans hw.out).symm
        rcases del_true hc with h1 | ⟨h1, h2⟩ | ⟨h1, h2, h3⟩
        all_goals
          clear hc
          go_wp2_with fail
          go_quiet (fail)
          go_wp2_with fail
          go_quiet (fail)
          go_wp2_with fail
          go_ret
          exact word_end HS.out ((HA.out.drewN _).drewN _) ((HO.out.drewN _).drewN _)
    · have hlt' : ¬ (j : Int) < s.size := by omega
      have hd : decide (j < s.size) = false := decide_eq_false hlt
      have HS := hide ((wend_end s j (by omega)).symm.trans hw.out).symm
      go_wp2_with fail
      go_quiet (fail)
      go_wp2_with fail
      go_quiet (fail)
      go_wp2_with fail
      go_ret
      exact word_end HS.out ((HA.out.drewN _).drewN _) ((HO.out.drewN _).drewN _)
end Go.Proofs.YtfmfnfmhknlpbaaDoor

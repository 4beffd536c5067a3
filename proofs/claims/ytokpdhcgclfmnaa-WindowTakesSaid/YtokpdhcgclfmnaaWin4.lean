/-
  The window as a list of what was taken: Would, Take, Top, Missing, Clone.
-/
import Derived.Test.YtokpdhcgclfmnaaWin3
import Derived.Test.YtokpdhcgclfmnaaRef07
namespace Go.Proofs.Ytokpdhcgclfmnaa
open Go.RowKit Go.Deep

/-- The window behind b took the counters of L, and no others. -/
def WinSet (w : World) (b : Nat) (L : List Nat) : Prop :=
  ∃ B, WinIs w b B (maxL L) (decide (L ≠ [])) ∧ (∀ c ∈ L, c < 18446744073709543423) ∧ L.Nodup ∧ ∀ d, d ≤ maxL L → maxL L - d < 2048 → B (d % 2048) = decide (d ∈ L)

theorem WinSet.only {S : List Nat} {w w' : World} {b : Nat} {L : List Nat} (h : WinSet w b L) (ho : Only S w w') (hb : b ∉ S) : WinSet w' b L := by
  obtain ⟨B, h, h2⟩ := h
  exact ⟨B, h.only ho hb, h2⟩
theorem WinSet.lt {w : World} {b : Nat} {L : List Nat} (h : WinSet w b L) : b < w.heap.size := by
  obtain ⟨B, h, _⟩ := h
  exact h.lt
theorem WinSet.max_lt {w : World} {b : Nat} {L : List Nat} (h : WinSet w b L) : maxL L < 18446744073709543423 := by
  obtain ⟨B, _, h, _⟩ := h
  exact maxL_lt _ (by omega) L h
theorem WinSet.new {w : World} {b : Nat} (h : WinIs w b (fun _ => false) 0 false) : WinSet w b [] :=
  ⟨_, h, by simp, List.nodup_nil, fun d _ _ => by simp⟩

theorem would_eq {B : Nat → Bool} {L : List Nat} {c : Nat} (hB : ∀ d, d ≤ maxL L → maxL L - d < 2048 → B (d % 2048) = decide (d ∈ L)) : wouldV B (maxL L) (decide (L ≠ [])) c = wouldL L c := by
  unfold wouldV wouldL
  by_cases k1 : 18446744073709543423 ≤ c
  · rw [if_pos k1, if_pos k1]
  rw [if_neg k1, if_neg k1]
  by_cases k2 : L = []
  · rw [if_pos (.inl (by simp [k2])), if_neg (by simp [k2])]
  by_cases k3 : maxL L < c
  · rw [if_pos (.inr k3), if_neg]
    rintro ⟨_, h | ⟨h, _⟩⟩
    · have := le_maxL L c h; omega
    · omega
  rw [if_neg (by simp [k2, k3])]
  by_cases k4 : 2048 ≤ maxL L - c
  · rw [if_pos (.inl k4), if_pos ⟨k2, .inr ⟨by omega, k4⟩⟩]
  · have hb := hB c (by omega) (by omega)
    by_cases k5 : c ∈ L
    · rw [if_pos (.inr (by rw [hb]; simpa using k5)), if_pos ⟨k2, .inl k5⟩]
    · rw [if_neg (by rw [hb]; simp [k4, k5]), if_neg]
      rintro ⟨_, h | ⟨_, h⟩⟩
      · exact k5 h
      · exact k4 h

theorem winset_would (w : World) (b : Nat) (L : List Nat) (c : Nat) (hw : WinSet w b L) (hc : c < 18446744073709551616) :
    Calls Try.prog 30 #[.pointer (some ⟨b, 0, none⟩), .int .u64 c] w fun e w' => e = .returned (.int .i64 (wouldL L c)) ∧ w = w' := by
  obtain ⟨B, h, _, _, hB⟩ := hw
  rw [← would_eq hB]
  exact win_would w b B _ _ c h hc

theorem winset_top (w : World) (b : Nat) (L : List Nat) (hw : WinSet w b L) :
    Calls Try.prog 26 #[.pointer (some ⟨b, 0, none⟩)] w fun e w' => e = .returned (.tuple #[.int .u64 (maxL L : Nat), .bool (decide (L ≠ []))]) ∧ w = w' := by
  obtain ⟨B, h, _, _, hB⟩ := hw
  have h1 := h.top_
  have h2 := h.some_
  clear hB h
  by_cases k : L = []
  · subst k
    have e : decide (([] : List Nat) ≠ []) = false := by simp
    rw [e] at h2 ⊢
    have e2 : maxL [] = 0 := rfl
    rw [e2] at h1 ⊢
    clear e e2
    go_enter Try.func26, Try.ntmps26
    go_wp2
    go_ret2
    exact ⟨rfl, rfl⟩
  · have e : decide (L ≠ []) = true := by simpa using k
    rw [e] at h2 ⊢
    clear k e
    generalize maxL L = t at h1 ⊢
    go_enter Try.func26, Try.ntmps26
    go_wp2
    go_ret2
    exact ⟨rfl, rfl⟩

theorem win_top_nil (w : World) :
    Calls Try.prog 26 #[.pointer none] w fun e w' => e = .returned (.tuple #[.int .u64 0, .bool false]) ∧ w = w' := by
  go_enter Try.func26, Try.ntmps26
  go_wp2
  go_ret2
  exact ⟨rfl, rfl⟩
theorem win_missing_nil (w : World) :
    Calls Try.prog 27 #[.pointer none] w fun e w' => e = .returned (.int .i64 0) ∧ w = w' := by
  go_enter Try.func27, Try.ntmps27
  go_wp2
  go_ret
  exact ⟨rfl, rfl⟩
theorem win_clone_nil (w : World) :
    Calls Try.prog 28 #[.pointer none] w fun e w' => e = .returned (.pointer none) ∧ w = w' := by
  go_enter Try.func28, Try.ntmps28
  go_wp2
  go_ret
  exact ⟨rfl, rfl⟩
theorem win_take_nil (w : World) (c : Nat) :
    Calls Try.prog 25 #[.pointer none, .int .u64 c] w fun e w' => e = .returned (.int .i64 1) ∧ w = w' := by
  go_enter Try.func25, Try.ntmps25
  go_wp2_with (go_at_call 30; refine (win_would_nil _ c).mono ?_; rintro e w' ⟨rfl, rfl⟩)
  go_ret
  exact ⟨rfl, rfl⟩

theorem win_advance (w : World) (b : Nat) (B : Nat → Bool) (top : Nat) (sm : Bool) (c : Nat) (hw : WinIs w b B top sm) (hc : c < 18446744073709551616) (h : top < c) :
    Calls Try.prog 36 #[.pointer (some ⟨b, 0, none⟩), .int .u64 c] w fun e w' => e = .returned (.tuple #[]) ∧ ∃ B', WinIs w' b B' c sm ∧ (∀ d, d ≤ c → c - d < 2048 → B' (d % 2048) = (decide (d ≤ top) && B (d % 2048))) ∧ Only [b] w w' := by
  rcases Nat.lt_or_ge (c - top) 2048 with hf | hf
  · exact (win_advance_near w b B top sm c hw hc h hf).mono fun e w' ⟨he, _, _, ho, B', hw', hB⟩ => ⟨he, B', hw', hB, ho⟩
  · refine (win_advance_far w b B top sm c hw hc h hf).mono fun e w' ⟨he, hw', ho⟩ => ⟨he, _, hw', fun d hd hd2 => ?_, ho⟩
    rw [decide_eq_false (by omega)]
    rfl

def takeL (L : List Nat) (c : Nat) : List Nat := if wouldL L c = 0 then L ++ [c] else L

theorem would_zero {L : List Nat} {c : Nat} (h : wouldL L c = 0) : c < 18446744073709543423 ∧ c ∉ L ∧ (L = [] ∨ maxL L < c + 2048) := by
  unfold wouldL at h
  split at h
  · cases h
  · split at h
    · cases h
    · rename_i h1 h2
      refine ⟨by omega, fun hm => h2 ⟨(by rintro rfl; cases hm), .inl hm⟩, ?_⟩
      by_cases k : L = []
      · exact .inl k
      · refine .inr ?_
        apply Decidable.byContradiction
        intro h3
        exact h2 ⟨k, .inr ⟨by omega, by omega⟩⟩

theorem winset_step {w' : World} {b : Nat} {L : List Nat} {c : Nat} {B B' : Nat → Bool} (h0 : wouldL L c = 0) (hlt : ∀ d ∈ L, d < 18446744073709543423) (hnd : L.Nodup)
    (hB : ∀ d, d ≤ maxL L → maxL L - d < 2048 → B (d % 2048) = decide (d ∈ L))
    (hB' : ∀ d, d ≤ max (maxL L) c → max (maxL L) c - d < 2048 → B' (d % 2048) = (decide (d ≤ maxL L) && B (d % 2048)))
    (hw : WinIs w' b (fun i => decide (i = c % 2048) || B' i) (max (maxL L) c) true) : WinSet w' b (L ++ [c]) := by
  obtain ⟨h1, h2, h3⟩ := would_zero h0
  refine ⟨_, by rw [maxL_snoc, decide_eq_true (by simp)]; exact hw, fun d hd => ?_, ?_, fun d hd hd2 => ?_⟩
  · rcases List.mem_append.1 hd with hd | hd
    · exact hlt d hd
    · have : d = c := by simpa using hd
      omega
  · rw [List.nodup_append]
    exact ⟨hnd, by simp, fun a ha b hb => by have : b = c := by simpa using hb
                                             rintro rfl; exact h2 (this ▸ ha)⟩
  · rw [maxL_snoc] at hd hd2
    by_cases hdc : d = c
    · subst hdc
      simp
    · have hmc : max (maxL L) c < c + 2048 := by
        rcases h3 with h3 | h3
        · subst h3
          have : maxL [] = 0 := rfl
          omega
        · omega
      have hne : d % 2048 ≠ c % 2048 := by omega
      simp only [decide_eq_false hne, Bool.false_or]
      rw [hB' d hd hd2]
      have hmem : decide (d ∈ L ++ [c]) = decide (d ∈ L) := by rw [decide_eq_decide]; simp [hdc]
      rw [hmem]
      by_cases hdt : d ≤ maxL L
      · rw [decide_eq_true hdt, Bool.true_and, hB d hdt (by omega)]
      · rw [decide_eq_false hdt, Bool.false_and]
        symm
        rw [decide_eq_false_iff_not]
        intro hm
        exact hdt (le_maxL L d hm)

theorem winset_take (w : World) (b : Nat) (L : List Nat) (c : Nat) (hw : WinSet w b L) (hc : c < 18446744073709551616) :
    Calls Try.prog 25 #[.pointer (some ⟨b, 0, none⟩), .int .u64 c] w fun e w' => e = .returned (.int .i64 (wouldL L c)) ∧ WinSet w' b (takeL L c) ∧ Only [b] w w' := by
  have HW := hide hw
  obtain ⟨B, hwi, hlt, hnd, hB⟩ := hw
  by_cases k : wouldL L c = 0
  case neg =>
    have hk : (wouldL L c != 0) = true := by rw [bne_iff_ne]; exact k
    have et : takeL L c = L := by unfold takeL; rw [if_neg k]
    rw [et]
    clear hB hlt hnd hwi k et
    generalize hr : wouldL L c = r at hk ⊢
    have HR := hide hr
    clear hr
    go_enter Try.func25, Try.ntmps25
    go_wp2_with (go_at_call 30; refine (winset_would _ b L c HW.out hc).mono ?_; rw [HR.out]; rintro e w' ⟨rfl, rfl⟩)
    go_ret
    exact ⟨rfl, HW.out, Only.refl _ _⟩
  have et : takeL L c = L ++ [c] := by unfold takeL; rw [if_pos k]
  rw [et, k]
  have K := hide k
  have HSTEP := hide (fun (w' : World) (B' : Nat → Bool) h1 h2 => winset_step (w' := w') (b := b) (B' := B') k hlt hnd hB h1 h2)
  have h1 := hwi.top_
  have HWI := hide hwi
  clear hB hlt hnd hwi k et
  generalize htt : maxL L = t at h1 HSTEP HWI
  clear htt
  by_cases k2 : t < c
  · have k2' : (t : Int) < c := by omega
    have em := hide (show max t c = c by omega)
    go_enter Try.func25, Try.ntmps25
    go_wp2_with (first
      | (go_at_call 30; refine (winset_would _ b L c HW.out hc).mono ?_; rw [K.out]; rintro e w' ⟨rfl, rfl⟩)
      | (go_at_call 36; refine (win_advance _ b B t _ c HWI.out hc k2).mono ?_; rintro e w2 ⟨rfl, B', hw2, hB2, ho2⟩; have s2 := hw2.some_; have z2 := hw2.frozen 33; have HW2 := hide (hw2.set_some true); have HB2 := hide hB2; have HO2 := hide (ho2.setCell (p := ⟨b, 33, none⟩) (.inl (by simp)) (.bool true)); clear hw2 hB2 ho2)
      | (go_at_call 37; refine (win_set _ b B' c true c HW2.out hc).mono ?_; rintro e w3 ⟨rfl, hw3, ho3⟩))
    go_ret
    refine ⟨rfl, HSTEP.out w3 B' ?_ ?_, HO2.out.trans ho3⟩
    · rw [em.out]; exact HB2.out
    · rw [em.out]; exact hw3
  · have k2' : ¬ (t : Int) < c := by omega
    have em := hide (show max t c = t by omega)
    have s2 := HWI.out.some_
    have z2 := HWI.out.frozen 33
    have HW2 := hide (HWI.out.set_some true)
    have HO2 := hide ((Only.refl [b] w).setCell (p := ⟨b, 33, none⟩) (.inl (by simp)) (.bool true))
    go_enter Try.func25, Try.ntmps25
    go_wp2_with (first
      | (go_at_call 30; refine (winset_would _ b L c HW.out hc).mono ?_; rw [K.out]; rintro e w' ⟨rfl, rfl⟩)
      | (go_at_call 37; refine (win_set _ b B t true c HW2.out hc).mono ?_; rintro e w3 ⟨rfl, hw3, ho3⟩))
    go_ret
    refine ⟨rfl, HSTEP.out w3 B ?_ ?_, HO2.out.trans ho3⟩
    · rw [em.out]; intro d hd _; rw [decide_eq_true hd]; rfl
    · rw [em.out]; exact hw3
end Go.Proofs.Ytokpdhcgclfmnaa

/-
  Walks and plain words (texts Mc0). No condition beyond those that each theorem states.
-/
import Derived.Test.YtcokjoidpnfjhaaGreatDoorA19
namespace Go.Proofs.YtcokjoidpnfjhaaGreatDoor
section
open Go.RowKit Go.Deep

noncomputable def doorT (p : ByteArray) : ByteArray := makeV 7 0 [] [⟨#[120, 54, 100, 54, 49, 54, 51, 51, 49]⟩, p]
noncomputable def sumT (k u : ByteArray) : ByteArray := makeV 9 0 [] [k, u]
def startsM (m : Mg) : Bool := decide (m.k ≤ 2) && rightM m
theorem door_size (p : ByteArray) : (doorT p).size ≤ maxLen := make_size' _ _ _ _ (by omega)
theorem sum_size (k u : ByteArray) : (sumT k u).size ≤ maxLen := make_size' _ _ _ _ (by omega)
set_option maxRecDepth 100000 in
set_option maxHeartbeats 12800000 in
theorem sum_any (w : World) (k u : ByteArray) (hk : k.size ≤ maxLen) (hu : u.size ≤ maxLen) (htab : Tab w) : Calls Tryz.prog 190 #[.string k, .string u] w (MakePost (sumT k u) w) := by
  have HT := hide htab
  clear htab
  go_enter Tryz.func190, Tryz.ntmps190
  go_wp2_with (go_at_call 122; refine (make_new2 _ HT.out _ rfl 9 (by decide) 0 (by omega) k u hk hu).mono ?_; rintro e w2 ⟨rfl, ho⟩; have HO := hide ho; clear ho)
  go_ret
  exact makepost rfl HO.out
set_option maxRecDepth 100000 in
set_option maxHeartbeats 12800000 in
theorem door_any (w : World) (p : ByteArray) (hp : p.size ≤ maxLen) (htab : Tab w) : Calls Tryz.prog 90 #[.string p] w (MakePost (doorT p) w) := by
  have HT := hide htab
  clear htab
  go_enter Tryz.func90, Tryz.ntmps90
  go_wp2_with (go_at_call 122; refine (make_new2 _ HT.out _ rfl 7 (by decide) 0 (by omega) ⟨#[120, 54, 100, 54, 49, 54, 51, 51, 49]⟩ p (by unfold maxLen; show 9 ≤ _; omega) hp).mono ?_; rintro e w2 ⟨rfl, ho⟩; have HO := hide ho; clear ho)
  go_ret
  exact makepost rfl HO.out
set_option maxRecDepth 100000 in
set_option maxHeartbeats 12800000 in
theorem starts_any (w : World) (m : Mg) (hF : m.Fine) (hk0 : -9223372036854775808 ≤ m.k) : Calls Tryz.prog 88 #[.agg m.cells] w (RetB (startsM m) w) := by
  have HTM := hide (fun W => Terms_any W m hF)
  unfold TermsPost at HTM
  have HVN := hide (fun (h : ¬ (m.k = 1 ∨ m.k = 2)) => show startsM m = false by
    unfold startsM
    by_cases h1 : 1 ≤ m.k ∧ m.k ≤ 4
    · rw [decide_eq_false (by omega)]; rfl
    · rw [right_none h1, Bool.and_false])
  have HVY := hide (fun (h : m.k = 1 ∨ m.k = 2) => show startsM m = rightM m by unfold startsM; rw [decide_eq_true (by omega)]; rfl)
  have HTL := hide (fun (h : m.k = 1 ∨ m.k = 2) => show 0 < (textsM m).length by
    unfold textsM
    rcases h with h | h
    · rw [if_pos h]; simp
    · rw [if_neg (by omega), if_pos h]; simp)
  have hkk := hk0
  generalize rightM m = rr at *
  generalize startsM m = ss at *
  generalize textsM m = tl at *
  obtain ⟨k, s, r, c, x4, x5, x6, x7, x8, x9, x10, x11, x12⟩ := m
  unfold Mg.cells at HTM ⊢
  simp only at HTM HVN HVY HTL ⊢
  have HMB := hide (Blk.new w 29 #[.int .i64 k, .int .u32 (s : Nat), .int .u32 (r : Nat), .int .u64 (c : Nat), .string x4, .string x5, .string x6, .string x7, .string x8, .string x9, .string x10, .string x11, .string x12])
  have HO := hide ((Only.refl [] w).alloc (.cells #[.int .i64 k, .int .u32 (s : Nat), .int .u32 (r : Nat), .int .u64 (c : Nat), .string x4, .string x5, .string x6, .string x7, .string x8, .string x9, .string x10, .string x11, .string x12] 29))
  have m0 := HMB.out.cell 0; have m1 := HMB.out.cell 1; have m2 := HMB.out.cell 2; have m3 := HMB.out.cell 3; have m4 := HMB.out.cell 4; have m5 := HMB.out.cell 5; have m6 := HMB.out.cell 6; have m7 := HMB.out.cell 7; have m8 := HMB.out.cell 8; have m9 := HMB.out.cell 9; have m10 := HMB.out.cell 10; have m11 := HMB.out.cell 11; have m12 := HMB.out.cell 12; simp at m0 m1 m2 m3 m4 m5 m6 m7 m8 m9 m10 m11 m12
  clear hF hk0 hkk
  by_cases h1 : k = 1
  · have e1 : (k == 1) = true := by rw [beq_iff_eq]; exact h1
    have HV := hide (HVY.out (.inl h1))
    have htl := HTL.out (.inl h1)
    clear h1
    cases rr with
    | false =>
      simp only [Bool.false_eq_true, if_false] at HTM
      go_enter Tryz.func88, Tryz.ntmps88
      go_wp2_with (go_at_call 109; refine (HTM.out _).mono ?_; rintro e v1 ⟨ho, rfl⟩; replace HO := hide (HO.out.trans ho); clear ho)
      go_ret
      exact retb HV.out HO.out
    | true =>
      simp only [if_true] at HTM
      obtain ⟨n, hn⟩ : ∃ n, n = tl.length := ⟨_, rfl⟩
      have hn0 : (0 : Int) < n := by omega
      have hn1 : 0 < n := by omega
      have HN := hide hn
      clear htl hn
      go_enter Tryz.func88, Tryz.ntmps88
      go_wp2_with (go_at_call 109; refine (HTM.out _).mono ?_; rintro e v1 ⟨ho, v, rfl, hrd⟩; obtain ⟨A, cap, hv, hcc, hmm⟩ := hrd.form; replace hv : v = .slice A n cap := (by rw [HN.out, hv]; simp [strc]); subst hv; replace HO := hide (HO.out.trans ho); clear ho hrd hcc hmm)
      go_ret
      exact retb HV.out HO.out
  · by_cases h2 : k = 2
    · have e1 : (k == 1) = false := by rw [beq_eq_false_iff_ne]; exact h1
      have e2 : (k == 2) = true := by rw [beq_iff_eq]; exact h2
      have HV := hide (HVY.out (.inr h2))
      have htl := HTL.out (.inr h2)
      clear h1 h2
      cases rr with
      | false =>
        simp only [Bool.false_eq_true, if_false] at HTM
        go_enter Tryz.func88, Tryz.ntmps88
        go_wp2_with (go_at_call 109; refine (HTM.out _).mono ?_; rintro e v1 ⟨ho, rfl⟩; replace HO := hide (HO.out.trans ho); clear ho)
        go_ret
        exact retb HV.out HO.out
      | true =>
        simp only [if_true] at HTM
        obtain ⟨n, hn⟩ : ∃ n, n = tl.length := ⟨_, rfl⟩
        have hn0 : (0 : Int) < n := by omega
        have hn1 : 0 < n := by omega
        have HN := hide hn
        clear htl hn
        go_enter Tryz.func88, Tryz.ntmps88
        go_wp2_with (go_at_call 109; refine (HTM.out _).mono ?_; rintro e v1 ⟨ho, v, rfl, hrd⟩; obtain ⟨A, cap, hv, hcc, hmm⟩ := hrd.form; replace hv : v = .slice A n cap := (by rw [HN.out, hv]; simp [strc]); subst hv; replace HO := hide (HO.out.trans ho); clear ho hrd hcc hmm)
        go_ret
        exact retb HV.out HO.out
    · have e1 : (k == 1) = false := by rw [beq_eq_false_iff_ne]; exact h1
      have e2 : (k == 2) = false := by rw [beq_eq_false_iff_ne]; exact h2
      have HV := hide (HVN.out (by omega))
      clear h1 h2
      go_enter Tryz.func88, Tryz.ntmps88
      go_wp2_with fail
      go_ret
      exact retb HV.out HO.out
end
end Go.Proofs.YtcokjoidpnfjhaaGreatDoor

/-
  Contracts of window's advance, Take, Top, Missing, Clone, by walking.
-/
import Derived.Test.YtokpdhcgclfmnaaWin2
namespace Go.Proofs.Ytokpdhcgclfmnaa
open Go.RowKit Go.Deep

theorem WinIs.zeroed {w : World} {b : Nat} {B : Nat → Bool} {top : Nat} {sm : Bool} (h : WinIs w b B top sm) : WinIs (w.setCells b 0 (List.replicate 32 (.int .u64 0))) b (fun _ => false) top sm := by
  obtain ⟨ws, h, _⟩ := h
  refine ⟨List.replicate 32 0, ⟨?_, by simp, by intro x hx; rw [List.eq_of_mem_replicate hx]; omega, h.2.2.2⟩, fun i hi => ?_⟩
  · have h' := Blk.setCells (List.replicate 32 (.int .u64 0)) 0 h.1
    have e : wr (winCells ws top sm).toArray 0 (List.replicate 32 (.int .u64 0)) = (winCells (List.replicate 32 0) top sm).toArray := by
      unfold winCells
      rw [wr_prefix _ _ _ (by rw [List.length_map, List.length_replicate, h.2.1]), List.map_replicate]
      rfl
    rw [e] at h'
    exact h'
  · unfold wbit
    have e : (List.replicate 32 0).getD (i / 64) 0 = 0 := by
      rw [List.getD_eq_getElem?_getD, List.getElem?_replicate]
      split <;> rfl
    rw [e, Nat.zero_testBit]

set_option maxRecDepth 100000 in
theorem win_advance_far (w : World) (b : Nat) (B : Nat → Bool) (top : Nat) (sm : Bool) (c : Nat) (hw : WinIs w b B top sm) (hc : c < 18446744073709551616) (h : top < c) (hf : 2048 ≤ c - top) :
    Calls Try.prog 36 #[.pointer (some ⟨b, 0, none⟩), .int .u64 c] w fun e w' => e = .returned (.tuple #[]) ∧ WinIs w' b (fun _ => false) c sm ∧ Only [b] w w' := by
  have h1 := hw.top_
  have hfz := hw.frozen
  have ht : top < 18446744073709551616 := by omega
  have hf' : (2048 : Int) ≤ c - top := by omega
  have HC := hide (show ∀ j, j < 32 → (w.cell? ⟨b, 0 + j, none⟩).isSome = true from fun j hj => by rw [Nat.zero_add]; exact hw.isSome j (by omega))
  have HZ := hide hw.zeroed
  have HO := hide (Only.setCells (a := w) (g := b) (S := [b]) (.inl (by simp)) 0 (List.replicate 32 (.int .u64 0)) (Only.refl [b] w))
  clear hw
  go_enter Try.func36, Try.ntmps36
  go_wp2_with fail
  go_step3
  go_upto_region 1 with (fail)
  refine wp_region_lit ?_
  iterate 12 go_step
  refine wpList_store_part rfl 62 (.tmp 14) (.tmp 12) rfl b 0 (List.replicate 32 (.int .u64 0)).toArray rfl rfl (by kernel_rfl) HC.out (fun j _ => by rw [Nat.zero_add]; exact hfz j) (by simp [Value.oneCell']) ?_
  simp only [List.toList_toArray]
  clear h1 hfz HC
  generalize w.setCells b 0 (List.replicate 32 (.int .u64 0)) = w2 at HZ HO ⊢
  have k1 := HZ.out.top_
  have k2 := HZ.out.frozen
  go_wp2_with fail
  rw [Exit.noGoto_ret]
  refine bodyPost_ret (results_none rfl _ _ _) rfl ?_
  exact ⟨rfl, HZ.out.set_top c hc, HO.out.setCell (.inl (by simp)) _⟩

/-- Behind t: what the blocks hold while the window goes on, step by step. -/
def AdvJ (w : World) (b : Nat) (B : Nat → Bool) (top : Nat) (sm : Bool) (c : Nat) (t : Nat) (w' : World) : Prop :=
  top ≤ t ∧ t ≤ c ∧ Only [b] w w' ∧ ∃ B', WinIs w' b B' t sm ∧ ∀ d, d ≤ t → t - d < 2048 → B' (d % 2048) = (decide (d ≤ top) && B (d % 2048))

theorem AdvJ.step {w wj w3 : World} {b : Nat} {B B' : Nat → Bool} {top t c : Nat} {sm : Bool} (h1 : top ≤ t) (h2 : t < c) (ho : Only [b] w wj)
    (hB : ∀ d, d ≤ t → t - d < 2048 → B' (d % 2048) = (decide (d ≤ top) && B (d % 2048))) (ho3 : Only [b] wj w3)
    (hw3 : WinIs w3 b (fun i => !decide (i = (t + 1) % 2048) && B' i) (t + 1) sm) : AdvJ w b B top sm c (t + 1) w3 := by
  refine ⟨by omega, by omega, ho.trans ho3, _, hw3, fun d hd hd2 => ?_⟩
  by_cases hdt : d = t + 1
  · subst hdt
    rw [decide_eq_true rfl, decide_eq_false (by omega)]
    rfl
  · have hne : d % 2048 ≠ (t + 1) % 2048 := by omega
    simp only [decide_eq_false hne]
    rw [← hB d (by omega) (by omega)]
    rfl

def AdvLoop (w : World) (b : Nat) (B : Nat → Bool) (top : Nat) (sm : Bool) (c : Nat) (a' : Act) (w' : World) : Prop :=
  ∃ (t : Nat) (u2 u3 u4 u5 u6 u7 u8 u9 u10 u11 u12 u13 u14 u15 u16 u17 u18 u19 u20 u21 u22 u23 u24 u25 u26 u27 u28 u29 u30 u31 u32 u33 u34 u35 u36 u37 : Value), a' = ⟨#[.pointer (some ⟨b, 0, none⟩), .int .u64 c, u2, u3, u4, u5, u6, u7, u8, u9, u10, u11, u12, u13, u14, u15, u16, u17, u18, u19, u20, u21, u22, u23, u24, u25, u26, u27, u28, u29, u30, u31, u32, u33, u34, u35, u36, u37], []⟩ ∧ t < c ∧ AdvJ w b B top sm c t w'

set_option maxRecDepth 100000 in
theorem win_advance_near (w : World) (b : Nat) (B : Nat → Bool) (top : Nat) (sm : Bool) (c : Nat) (hw : WinIs w b B top sm) (hc : c < 18446744073709551616) (h : top < c) (hf : c - top < 2048) :
    Calls Try.prog 36 #[.pointer (some ⟨b, 0, none⟩), .int .u64 c] w fun e w' => e = .returned (.tuple #[]) ∧ AdvJ w b B top sm c c w' := by
  have h1 := hw.top_
  have ht : top < 18446744073709551616 := by omega
  have hf' : ¬ (2048 : Int) ≤ c - top := by omega
  go_enter Try.func36, Try.ntmps36
  refine wp_scope_jumps 0 (AdvLoop w b B top sm c) (fun _ w' => c - (intOf ((w'.cell? ⟨b, 32, none⟩).getD undef)).toNat) rfl ?_ ?_
  · have hfz := hw.frozen
    have hB' : ∀ d, d ≤ top → top - d < 2048 → B (d % 2048) = (decide (d ≤ top) && B (d % 2048)) := fun d hd _ => by rw [decide_eq_true hd]; rfl
    have HB := hide hB'
    clear hB'
    have HS := hide (hw.set_top (top + 1) (by omega))
    have hOS : Only [b] w (w.setCell ⟨b, 32, none⟩ (.int .u64 ((top + 1 : Nat) : Int))) := (Only.refl _ _).setCell (.inl (by simp)) _
    have HOS := hide hOS
    have HU := hide (win_unset _ b B (top + 1) sm (top + 1) HS.out (by omega))
    have ec : ((top + 1 : Nat) : Int) = (top : Int) + 1 := by omega
    rw [ec] at HS HOS HU
    clear hOS ec hw

    go_wp2_with fail
    go_step3
    by_cases hlt : top + 1 < c
    · have hlt' : (top : Int) + 1 < c := by omega
      go_wp2_with (go_at_call 40; refine HU.out.mono ?_; rintro e w3 ⟨rfl, hw3, ho3⟩; have k3 := hw3.top_; rw [show ((top + 1 : Nat) : Int) = (top : Int) + 1 by omega] at k3; have HJ := hide (AdvJ.step (c := c) (Nat.le_refl top) (by omega) (Only.refl [b] w) HB.out (HOS.out.trans ho3) hw3); clear hw3 ho3)

      go_step3
      exact ⟨rfl, top + 1, _, _, _, _, _, _, _, _, _, _, _, _, _, _, _, _, _, _, _, _, _, _, _, _, _, _, _, _, _, _, _, _, _, _, _, _, rfl, hlt, HJ.out⟩
    · have hlt' : ¬ (top : Int) + 1 < c := by omega
      go_wp2_with (go_at_call 40; refine HU.out.mono ?_; rintro e w3 ⟨rfl, hw3, ho3⟩; have k3 := hw3.top_; rw [show ((top + 1 : Nat) : Int) = (top : Int) + 1 by omega] at k3; have HJ := hide (AdvJ.step (c := c) (Nat.le_refl top) (by omega) (Only.refl [b] w) HB.out (HOS.out.trans ho3) hw3); clear hw3 ho3)

      simp only [Exit.jump]
      refine bodyPost_end (results_none rfl _ _ _) rfl ?_
      exact ⟨rfl, by have h := HJ.out; rwa [show top + 1 = c by omega] at h⟩
  · rintro a' w' ⟨t, u2, u3, u4, u5, u6, u7, u8, u9, u10, u11, u12, u13, u14, u15, u16, u17, u18, u19, u20, u21, u22, u23, u24, u25, u26, u27, u28, u29, u30, u31, u32, u33, u34, u35, u36, u37, rfl, htc, hle, _, ho, B', hw', hB'⟩
    have k1 := hw'.top_
    have hfz := hw'.frozen
    have htc' : (t : Int) < c := by omega
    have HB := hide hB'
    have HO := hide ho
    clear hB' ho hw h1
    have HS := hide (hw'.set_top (t + 1) (by omega))
    have hOS : Only [b] w' (w'.setCell ⟨b, 32, none⟩ (.int .u64 ((t + 1 : Nat) : Int))) := (Only.refl _ _).setCell (.inl (by simp)) _
    have HOS := hide hOS
    have HU := hide (win_unset _ b B' (t + 1) sm (t + 1) HS.out (by omega))
    have ec : ((t + 1 : Nat) : Int) = (t : Int) + 1 := by omega
    rw [ec] at HS HOS HU
    clear hOS ec hw'

    by_cases hlt : t + 1 < c
    · have hlt' : (t : Int) + 1 < c := by omega
      go_wp2_with (go_at_call 40; refine HU.out.mono ?_; rintro e w3 ⟨rfl, hw3, ho3⟩; have k3 := hw3.top_; rw [show ((t + 1 : Nat) : Int) = (t : Int) + 1 by omega] at k3; have HJ := hide (AdvJ.step (c := c) hle (by omega) HO.out HB.out (HOS.out.trans ho3) hw3); clear hw3 ho3)

      go_step3
      refine ⟨rfl, ⟨t + 1, _, _, _, _, _, _, _, _, _, _, _, _, _, _, _, _, _, _, _, _, _, _, _, _, _, _, _, _, _, _, _, _, _, _, _, _, rfl, hlt, HJ.out⟩, ?_⟩
      simp [intOf, k1, k3]
      omega
    · have hlt' : ¬ (t : Int) + 1 < c := by omega
      go_wp2_with (go_at_call 40; refine HU.out.mono ?_; rintro e w3 ⟨rfl, hw3, ho3⟩; have k3 := hw3.top_; rw [show ((t + 1 : Nat) : Int) = (t : Int) + 1 by omega] at k3; have HJ := hide (AdvJ.step (c := c) hle (by omega) HO.out HB.out (HOS.out.trans ho3) hw3); clear hw3 ho3)

      simp only [Exit.jump]
      refine bodyPost_end (results_none rfl _ _ _) rfl ?_
      exact ⟨rfl, by have h := HJ.out; rwa [show t + 1 = c by omega] at h⟩
end Go.Proofs.Ytokpdhcgclfmnaa

/-
  TermReads: any text is a term of the kind, with the parts, the number and the bytes, that the chapter says, or none; made of these it is the same. Proved for every input; no condition.
-/
import Derived.Test.YtfmfnfmhknlpbaaDoorLaidQ
import Derived.Test.YtfmfnfmhknlpbaaDoorLr0Q
import Derived.Test.YtfmfnfmhknlpbaaDoorLr2Q
import Derived.Test.YtfmfnfmhknlpbaaDoorLr3Q
import Derived.Test.YtfmfnfmhknlpbaaDoorLr4Q
import Derived.Test.YtfmfnfmhknlpbaaDoorLr8Q
import Derived.Test.YtfmfnfmhknlpbaaDoorLraQ
import Derived.Test.YtfmfnfmhknlpbaaDoorLrxQ
import Derived.Test.YtfmfnfmhknlpbaaDoorOpsQ
import Derived.Test.YtfmfnfmhknlpbaaDoorTie
import Derived.Test.YtfmfnfmhknlpbaaDoorCards
import Derived.ChangeMaps5
import Derived.SevenTiedAt
namespace Go.Proofs.YtfmfnfmhknlpbaaDoor
open Go.RowKit Go.Deep Go.ChangeShapes Go.WideShapes Go.ChangeAt
open Go.ChangeMaps (open_string shut_string)

set_option maxRecDepth 100000 in
theorem termReads_law (t : ByteArray) (hs : t.size ≤ maxLen) {w : World} (htab : Tab w) : Calls Tryd.prog 6 #[.string t] w fun e w' => e = .returned (.bool true) ∧ Only [] w w' := by
  by_cases hl : 2000 < t.size
  · exact reads_long t hl hs w htab
  have ht : t.size ≤ 2000 := by omega
  obtain ⟨⟨K, N, B, L⟩, hw⟩ : ∃ r, whatV t = r := ⟨_, rfl⟩
  have hr := what_range t
  rw [hw] at hr
  obtain ⟨hk0, hk1, hN, hL⟩ := hr
  simp only at hk0 hk1 hN hL
  by_cases h0 : K = 0
  · subst h0; exact reads_0 N hN B L hL t ht hw w htab
  by_cases h2 : K = 2
  · subst h2; exact reads_2 N hN B L hL t ht hw w htab
  by_cases h3 : K = 3
  · subst h3; exact reads_3 N hN B L hL t ht hw w htab
  by_cases h4 : K = 4
  · subst h4; exact reads_4 N hN B L hL t ht hw w htab
  by_cases h8 : K = 8
  · subst h8; exact reads_8 N hN B L hL t ht hw w htab
  by_cases h10 : K = 10
  · subst h10; exact reads_10 N hN B L hL t ht hw w htab
  exact reads_x K (by rw [beq_eq_false_iff_ne]; exact h0) (by rw [beq_eq_false_iff_ne]; exact h2) (by rw [beq_eq_false_iff_ne]; exact h3) (by rw [beq_eq_false_iff_ne]; exact h4) (by rw [beq_eq_false_iff_ne]; exact h8) (by rw [beq_eq_false_iff_ne]; exact h10)
    (by simp only [Lit.wf, Bool.and_eq_true, decide_eq_true_eq]; have e1 : IntKind.i64.min = -9223372036854775808 := rfl; have e2 : IntKind.i64.max = 9223372036854775807 := rfl; omega) N hN B L hL t ht hw w htab

set_option maxRecDepth 100000 in
theorem lifted_termReads (os : Os) (started : os.Started) (H : Type) (enc : TypeId × Value → H) :
    ReturnsInHanded {} Tryd.checked os 6 .any (fun w args => (Rows.termReadsSpec.pre enc Tryd.prog Tryd.f6 Rows.termReadsRow.domain false w args ∧ laidMetH Tryd.prog laidAll w) ∧ sizedMet enc Tryd.prog Tryd.f6 (OpenSpec.ofChange Rows.termReadsSpec) false w args)
      (Rows.termReadsSpec.post enc Tryd.prog Tryd.f6 false true false false) := by
  refine returnsInHanded_of_change_and (C := Tryd.checked) (X := fun w _ => laidMetH Tryd.prog laidAll w) (fun _ _ _ hh h => h.of_heap hh) own_all started (by kernel_rfl) Tryd.func6
    (ChangeSpec.witness_shaped (enc := enc) (C := Tryd.checked) (os := os) (X := fun w _ => laidMetH Tryd.prog laidAll w) false (World.doorLaid Tryd.prog 400 os) #[.string ByteArray.empty] 8 rfl (World.shaped_of_RefB (by kernel_rfl) (by kernel_rfl)) (by kernel_rfl) (by kernel_rfl) (by kernel_rfl) (door_met os _)) ?_
  intro W base args ds gs before hval0 hW hcnd _ hL _
  have hval : ∀ (j : Nat) t v, Tryd.f6.params[j]? = some t → args[j]? = some v → Value.okWide Tryd.prog W .any base t v := hval0
  have hW' := hW
  obtain ⟨p, q, hA0, hV, rfl, hfz, hnd⟩ := hW
  have hA : DataW.TrodAll enc Tryd.prog W 0 (fun _ => true) true Tryd.f6.params.toList args.toList ds p := hA0
  rw [Tryd.params6] at hA hval
  obtain ⟨v0, vs0, d0, ds0, p0, q0, hargs, rfl, rfl, h0, r0⟩ := trodAll_cons hA
  obtain ⟨rfl, rfl, rfl⟩ := trodAll_nil r0
  obtain rfl : args = #[v0] := by cases args; simp_all
  obtain ⟨rfl, rfl⟩ := trodVars_none hV
  obtain ⟨a0, rfl, rfl, rfl, w0⟩ := open_string Tryd.underlying9 (hval 0 9 v0 rfl rfl) h0
  clear hA0 hval0
  refine (termReads_law a0 w0 (tab_of_laid hL)).mono fun e W' ⟨he, hon⟩ => ?_
  subst he
  have bel : Below W.heap.size W W' := hon.below (fun x hx => by cases hx) (Nat.le_refl _)
  exact ⟨_, rfl, _, _, _, [], _, [], hW', trodAll_mk1 (shut_bool Tryd.underlying4 _), (trodAll_cons_mk (shut_string Tryd.underlying9 w0) trodAll_mk0), rfl, bel.frame _, fun h => by cases h⟩

theorem over_termReads : Rows.termReadsRow.holds Tryd.pinned (OpenSpec.ofChange Rows.termReadsSpec) :=
  OpenClaim.holds_of_wide 6 Tryd.f6 rfl rfl rfl rfl rfl rfl rfl ⟨rfl, rfl, rfl, rfl, rfl⟩ rfl rfl rfl rfl rfl (by kernel_rfl) Tryd.func6 (by kernel_rfl)
    (of_decide_eq_true (by kernel_rfl)) (by unfold Func.isWrapper; first | (rw [if_pos (by decide +kernel)]; kernel_rfl) | (rw [if_neg (by decide +kernel)]; exact ⟨rfl, rfl⟩))
    (fun os started H enc _ => lifted_termReads os started H enc)

theorem termReads_proved : Rows.TermReadsCardSaid :=
  Claim7.holds_tied_plain_at .later [] [.data, .data, .data] true (true, "930d25a477c96f389e89f87c054980d1a3975a3b6dfd926860a01f7377118f60") false
    over_termReads (fun _ h => by cases h) (by kernel_rfl) (fun _ h => by cases h) termReads_row_tie rfl ⟨rfl, rfl⟩ (by kernel_rfl) rfl
    (fun f fn hf hfn => by
      obtain rfl : f = 6 := Option.some.inj ((show Tryd.prog.funcNamed "snicket/snicketlaw02.TermReads" = some 6 by kernel_rfl).symm.trans hf) |>.symm
      obtain rfl : fn = Tryd.f6 := (Option.some.inj (Tryd.func6.symm.trans hfn)).symm
      exact ⟨by kernel_rfl, fun j t ht => by
        rw [Tryd.params6] at ht
        have hm : t ∈ [9] := by simpa using Array.mem_of_getElem? ht
        have hall : ([9].all fun u => !Tryd.prog.wantsStandIn u) = true := by kernel_rfl
        exact (show Tryd.prog.wantsStandIn t = false by simpa using List.all_eq_true.1 hall t hm)⟩)
    (by kernel_rfl)
#print axioms termReads_proved
end Go.Proofs.YtfmfnfmhknlpbaaDoor

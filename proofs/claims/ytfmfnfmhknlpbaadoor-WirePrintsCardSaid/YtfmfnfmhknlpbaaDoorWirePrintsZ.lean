/-
  WirePrints: any message has the bytes, the terms, and what is signed, that the chapter says, or there is its error; from its bytes it is read. Proved for every input; no condition.
-/
import Derived.Test.YtfmfnfmhknlpbaaDoorTie
import Derived.Test.YtfmfnfmhknlpbaaDoorCards
import Derived.ChangeMaps5
import Derived.SevenTiedAt
import Derived.Test.YtfmfnfmhknlpbaaDoorP23
namespace Go.Proofs.YtfmfnfmhknlpbaaDoor
open Go.RowKit Go.Deep Go.ChangeShapes Go.WideShapes Go.ChangeAt
open Go.ChangeMaps (open_string shut_string)


set_option maxRecDepth 100000 in
theorem lifted_wirePrints (os : Os) (started : os.Started) (H : Type) (enc : TypeId × Value → H) :
    ReturnsInHanded {} Tryd.checked os 8 .any (fun w args => (Rows.wirePrintsSpec.pre enc Tryd.prog Tryd.f8 Rows.wirePrintsRow.domain false w args ∧ laidMetH Tryd.prog laidAll w) ∧ sizedMet enc Tryd.prog Tryd.f8 (OpenSpec.ofChange Rows.wirePrintsSpec) false w args)
      (Rows.wirePrintsSpec.post enc Tryd.prog Tryd.f8 false true false false) := by
  refine returnsInHanded_of_change_and (C := Tryd.checked) (X := fun w _ => laidMetH Tryd.prog laidAll w) (fun _ _ _ hh h => h.of_heap hh) own_all started (by kernel_rfl) Tryd.func8
    (ChangeSpec.witness_shaped (enc := enc) (C := Tryd.checked) (os := os) (X := fun w _ => laidMetH Tryd.prog laidAll w) false (World.doorLaid Tryd.prog 400 os) #[.agg #[.int .i64 0, .int .u32 0, .int .u32 0, .int .u64 0, .string ByteArray.empty, .string ByteArray.empty, .string ByteArray.empty, .string ByteArray.empty, .string ByteArray.empty, .string ByteArray.empty, .string ByteArray.empty, .string ByteArray.empty, .string ByteArray.empty]] 8 rfl (World.shaped_of_RefB (by kernel_rfl) (by kernel_rfl)) (by kernel_rfl) (by kernel_rfl) (by kernel_rfl) (door_met os _)) ?_
  intro W base args ds gs before hval0 hW hcnd _ hL _
  have hval : ∀ (j : Nat) t v, Tryd.f8.params[j]? = some t → args[j]? = some v → Value.okWide Tryd.prog W .any base t v := hval0
  have hW' := hW
  obtain ⟨p, q, hA0, hV, rfl, hfz, hnd⟩ := hW
  have hA : DataW.TrodAll enc Tryd.prog W 0 (fun _ => true) true Tryd.f8.params.toList args.toList ds p := hA0
  rw [Tryd.params8] at hA hval
  obtain ⟨v0, vs0, d0, ds0, p0, q0, hargs, rfl, rfl, h0, r0⟩ := trodAll_cons hA
  obtain ⟨rfl, rfl, rfl⟩ := trodAll_nil r0
  obtain rfl : args = #[v0] := by cases args; simp_all
  obtain ⟨rfl, rfl⟩ := trodVars_none hV
  have k0 := h0
  have lt0 : ∀ x ∈ p0, x.block < W.heap.size := by obtain ⟨m, hm⟩ := k0; exact DataW.trod_lt m _ _ _ hm
  obtain ⟨m0, rfl, f0, g0, b0⟩ := open_msg (hval 0 53 v0 rfl rfl) h0
  clear hA0 hval0
  refine (wp_walk m0 f0 (tab_of_laid hL)).mono fun e W' ⟨he, hon⟩ => ?_
  subst he
  have bel : Below W.heap.size W W' := hon.below (fun x hx => by cases hx) (Nat.le_refl _)
  exact ⟨_, rfl, _, _, _, [], _, [], hW', trodAll_mk1 (shut_bool Tryd.underlying4 _), (trodAll_cons_mk (Below.trod laidOut_all (by kernel_rfl) (of_decide_eq_true (by kernel_rfl)) k0 bel lt0) trodAll_mk0), rfl, bel.frame _, fun h => by cases h⟩

theorem over_wirePrints : Rows.wirePrintsRow.holds Tryd.pinned (OpenSpec.ofChange Rows.wirePrintsSpec) :=
  OpenClaim.holds_of_wide 8 Tryd.f8 rfl rfl rfl rfl rfl rfl rfl ⟨rfl, rfl, rfl, rfl, rfl⟩ rfl rfl rfl rfl rfl (by kernel_rfl) Tryd.func8 (by kernel_rfl)
    (of_decide_eq_true (by kernel_rfl)) (by unfold Func.isWrapper; first | (rw [if_pos (by decide +kernel)]; kernel_rfl) | (rw [if_neg (by decide +kernel)]; exact ⟨rfl, rfl⟩))
    (fun os started H enc _ => lifted_wirePrints os started H enc)

theorem wirePrints_proved : Rows.WirePrintsCardSaid :=
  Claim7.holds_tied_plain_at .later [] [.data, .data, .data] true (true, "930d25a477c96f389e89f87c054980d1a3975a3b6dfd926860a01f7377118f60") false
    over_wirePrints (fun _ h => by cases h) (by kernel_rfl) (fun _ h => by cases h) wirePrints_row_tie rfl ⟨rfl, rfl⟩ (by kernel_rfl) rfl
    (fun f fn hf hfn => by
      obtain rfl : f = 8 := Option.some.inj ((show Tryd.prog.funcNamed "snicket/snicketlaw06.WirePrints" = some 8 by kernel_rfl).symm.trans hf) |>.symm
      obtain rfl : fn = Tryd.f8 := (Option.some.inj (Tryd.func8.symm.trans hfn)).symm
      exact ⟨by kernel_rfl, fun j t ht => by
        rw [Tryd.params8] at ht
        have hm : t ∈ [53] := by simpa using Array.mem_of_getElem? ht
        have hall : ([53].all fun u => !Tryd.prog.wantsStandIn u) = true := by kernel_rfl
        exact (show Tryd.prog.wantsStandIn t = false by simpa using List.all_eq_true.1 hall t hm)⟩)
    (by kernel_rfl)
#print axioms wirePrints_proved
end Go.Proofs.YtfmfnfmhknlpbaaDoor

/-
  AddrTexts: any text is an address's, or a plain prefix's, as the chapter says, or there is its error; what is read is printed as it was. Proved for every input; no condition.
-/
import Derived.Test.YthecnaclfhfilaaDoorTie
import Derived.Test.YthecnaclfhfilaaDoorCards
import Derived.ChangeMaps5
import Derived.SevenTiedAt
import Derived.Test.YthecnaclfhfilaaDoorChecked
import Derived.Test.YthecnaclfhfilaaDoorB02
namespace Go.Proofs.YthecnaclfhfilaaDoor
open Go.RowKit Go.Deep Go.ChangeShapes Go.WideShapes Go.ChangeAt

open Go.ChangeMaps (open_string shut_string)
set_option maxRecDepth 100000 in
theorem at_big (w : World) (s : ByteArray) (hs : ¬ s.size ≤ 200) (htab : Tab w) : Calls Tryd.prog 3 #[.string s] w (TrueS w) := by
  have hs2 : (200 : Int) < (s.size : Int) := by omega
  have HT := hide htab
  clear hs htab
  go_enter Tryd.func3, Tryd.ntmps3
  go_wp2_with (go_at_call 5; refine (awake04 _ HT.out).mono ?_; rintro e w1 ⟨rfl, ho⟩; have HC := hide ho; clear ho)
  go_ret
  exact ⟨rfl, HC.out⟩
theorem addrTexts_law (s : ByteArray) (_ : s.size ≤ maxLen) {w : World} (htab : Tab w) : Calls Tryd.prog 3 #[.string s] w fun e w' => e = .returned (.bool true) ∧ Only [] w w' := by
  by_cases hs : s.size ≤ 200
  · by_cases h0 : (readA s).2 = 0
    · obtain ⟨l, hl⟩ : ∃ l, readA s = (l, 0) := ⟨(readA s).1, by rw [← h0]⟩
      cases hp : refP s with
      | none => exact at_yn w s hs l hl hp htab
      | some q => exact at_yy w s hs l hl q.1 q.2 hp htab
    · have hl := readA_no h0
      cases hp : refP s with
      | none => exact at_nn w s hs hl hp htab
      | some q => exact at_ny w s hs hl q.1 q.2 hp htab
  · exact at_big w s hs htab

set_option maxRecDepth 100000 in
theorem lifted_addrTexts (os : Os) (started : os.Started) (H : Type) (enc : TypeId × Value → H) :
    ReturnsInHanded {} Tryd.checked os 3 .any (fun w args => (Rows.addrTextsSpec.pre enc Tryd.prog Tryd.f3 Rows.addrTextsRow.domain false w args ∧ laidMetH Tryd.prog laidAll w) ∧ sizedMet enc Tryd.prog Tryd.f3 (OpenSpec.ofChange Rows.addrTextsSpec) false w args)
      (Rows.addrTextsSpec.post enc Tryd.prog Tryd.f3 false true false false) := by
  refine returnsInHanded_of_change_and (C := Tryd.checked) (X := fun w _ => laidMetH Tryd.prog laidAll w) (fun _ _ _ hh h => h.of_heap hh) own_all started (by kernel_rfl) Tryd.func3
    (ChangeSpec.witness_shaped (enc := enc) (C := Tryd.checked) (os := os) (X := fun w _ => laidMetH Tryd.prog laidAll w) false (doorA os) #[.string ByteArray.empty] 8 (doorA_os os) (World.shaped_of_RefB (by kernel_rfl) (by kernel_rfl)) (by kernel_rfl) (by kernel_rfl) (by kernel_rfl) (door_met os _)) ?_
  intro W base args ds gs before hval0 hW hcnd _ hL _
  have hval : ∀ (j : Nat) t v, Tryd.f3.params[j]? = some t → args[j]? = some v → Value.okWide Tryd.prog W .any base t v := hval0
  have hW' := hW
  obtain ⟨p, q, hA0, hV, rfl, hfz, hnd⟩ := hW
  have hA : DataW.TrodAll enc Tryd.prog W 0 (fun _ => true) true Tryd.f3.params.toList args.toList ds p := hA0
  rw [Tryd.params3] at hA hval
  obtain ⟨v0, vs0, d0, ds0, p0, q0, hargs, rfl, rfl, h0, r0⟩ := trodAll_cons hA
  obtain ⟨rfl, rfl, rfl⟩ := trodAll_nil r0
  obtain rfl : args = #[v0] := by cases args; simp_all
  obtain ⟨rfl, rfl⟩ := trodVars_none hV
  obtain ⟨a0, rfl, rfl, rfl, w0⟩ := open_string Tryd.underlying9 (hval 0 9 v0 rfl rfl) h0
  clear hA0 hval0
  refine (addrTexts_law a0 w0 (tab_of_laid hL)).mono fun e W' ⟨he, hon⟩ => ?_
  subst he
  have bel : Below W.heap.size W W' := hon.below (fun x hx => by cases hx) (Nat.le_refl _)
  exact ⟨_, rfl, _, _, _, [], _, [], hW', trodAll_mk1 (shut_bool Tryd.underlying4 _), (trodAll_cons_mk (shut_string Tryd.underlying9 w0) trodAll_mk0), rfl, bel.frame _, fun h => by cases h⟩

theorem over_addrTexts : Rows.addrTextsRow.holds Tryd.pinned (OpenSpec.ofChange Rows.addrTextsSpec) :=
  OpenClaim.holds_of_wide 3 Tryd.f3 rfl rfl rfl rfl rfl rfl rfl ⟨rfl, rfl, rfl, rfl, rfl⟩ rfl rfl rfl rfl rfl (by kernel_rfl) Tryd.func3 (by kernel_rfl)
    (of_decide_eq_true (by kernel_rfl)) (by unfold Func.isWrapper; first | (rw [if_pos (by decide +kernel)]; kernel_rfl) | (rw [if_neg (by decide +kernel)]; exact ⟨rfl, rfl⟩))
    (fun os started H enc _ => lifted_addrTexts os started H enc)

theorem addrTexts_proved : Rows.AddrTextsCardSaid :=
  Claim7.holds_tied_plain_at .later [] [.data, .data, .data, .data, .pinned] true (true, "1c13f6778641fbd9339352b0fdcecd8ec4d825a2d7a48c39a6f6d5a1a29be5e6") false
    over_addrTexts (fun _ h => by cases h) (by kernel_rfl) (fun _ h => by cases h) addrTexts_row_tie rfl ⟨rfl, rfl⟩ (by kernel_rfl) rfl
    (fun f fn hf hfn => by
      obtain rfl : f = 3 := Option.some.inj ((show Tryd.prog.funcNamed "snicket/snicketlaw04.AddrTexts" = some 3 by kernel_rfl).symm.trans hf) |>.symm
      obtain rfl : fn = Tryd.f3 := (Option.some.inj (Tryd.func3.symm.trans hfn)).symm
      exact ⟨by kernel_rfl, fun j t ht => by
        rw [Tryd.params3] at ht
        have hm : t ∈ [9] := by simpa using Array.mem_of_getElem? ht
        have hall : ([9].all fun u => !Tryd.prog.wantsStandIn u) = true := by kernel_rfl
        exact (show Tryd.prog.wantsStandIn t = false by simpa using List.all_eq_true.1 hall t hm)⟩)
    (by kernel_rfl)
#print axioms addrTexts_proved
end Go.Proofs.YthecnaclfhfilaaDoor

/-
  AddrPrints: any address, and any plain prefix, has the text that the chapter says, or there is its error; from it it is read. Proved for every input; no condition.
-/
import Derived.Test.YthecnaclfhfilaaDoorTie
import Derived.Test.YthecnaclfhfilaaDoorCards
import Derived.ChangeMaps5
import Derived.SevenTiedAt
import Derived.Test.YthecnaclfhfilaaDoorC03
import Derived.Test.YthecnaclfhfilaaDoorC04
namespace Go.Proofs.YthecnaclfhfilaaDoor
open Go.RowKit Go.Deep Go.ChangeShapes Go.WideShapes Go.ChangeAt

set_option maxRecDepth 100000 in
theorem ap_big (v : Value) (l : List UInt8) (b : Int) (w : World) (hv : Rd w [] v (ints .u8 (byts l))) (hl : ¬ l.length ≤ 40) (htab : Tab w) : Calls Tryd.prog 4 #[.agg #[v, .int .i64 b]] w (TrueS w) := by
  have HO := hide ((Only.refl [] w).alloc (.cells #[v, .int .i64 b] 30))
  have HBX := hide (Blk.new w 30 #[v, .int .i64 b])
  have HT := hide (htab.only HO.out (by simp))
  obtain ⟨A, cap, rfl, hcp, hcm⟩ := hv.formb
  have hl2 : (40 : Int) < (l.length : Int) := by omega
  clear hv hl htab
  go_enter Tryd.func4, Tryd.ntmps4
  go_wp2_with (go_at_call 5; refine (awake04 _ HT.out).mono ?_; rintro e w1 ⟨rfl, ho⟩; have HC := hide (HO.out.trans ho); have HBX := hide (HBX.out.only ho (by simp)); have c0 := HBX.out.cell 0; have c1 := HBX.out.cell 1; simp at c0 c1; clear ho)
  go_ret
  exact ⟨rfl, HC.out⟩
theorem addrPrints_law (v : Value) (l : List UInt8) (b : Int) {w : World} (hv : Rd w [] v (ints .u8 (byts l))) (htab : Tab w) : Calls Tryd.prog 4 #[.agg #[v, .int .i64 b]] w fun e w' => e = .returned (.bool true) ∧ Only [] w w' := by
  by_cases hl : l.length ≤ 40
  · by_cases h416 : l.length = 4 ∨ l.length = 16
    · cases hr : rightV l b with
      | false => exact ap_unright v l w hv hl b h416 hr htab
      | true =>
        obtain ⟨n, rfl, _, _⟩ := right_nat2 hr
        by_cases hp : plainV l n = l
        · exact ap_plain v l w hv hl n (isPlain_iff.2 ⟨hr, hp⟩) htab
        · exact ap_unplain v l w hv hl n h416 hr hp htab
    · exact ap_bad v l w hv hl b (fun h => h416 (.inl h)) (fun h => h416 (.inr h)) htab
  · exact ap_big v l b w hv hl htab

set_option maxRecDepth 100000 in
theorem lifted_addrPrints (os : Os) (started : os.Started) (H : Type) (enc : TypeId × Value → H) :
    ReturnsInHanded {} Tryd.checked os 4 .any (fun w args => (Rows.addrPrintsSpec.pre enc Tryd.prog Tryd.f4 Rows.addrPrintsRow.domain false w args ∧ laidMetH Tryd.prog laidAll w) ∧ sizedMet enc Tryd.prog Tryd.f4 (OpenSpec.ofChange Rows.addrPrintsSpec) false w args)
      (Rows.addrPrintsSpec.post enc Tryd.prog Tryd.f4 false true false false) := by
  refine returnsInHanded_of_change_and (C := Tryd.checked) (X := fun w _ => laidMetH Tryd.prog laidAll w) (fun _ _ _ hh h => h.of_heap hh) own_all started (by kernel_rfl) Tryd.func4
    (ChangeSpec.witness_shaped (enc := enc) (C := Tryd.checked) (os := os) (X := fun w _ => laidMetH Tryd.prog laidAll w) false (doorA os) #[.agg #[.slice none 0 0, .int .i64 0]] 8 (doorA_os os) (World.shaped_of_RefB (by kernel_rfl) (by kernel_rfl)) (by kernel_rfl) (by kernel_rfl) (by kernel_rfl) (door_met os _)) ?_
  intro W base args ds gs before hval0 hW hcnd _ hL _
  have hval : ∀ (j : Nat) t v, Tryd.f4.params[j]? = some t → args[j]? = some v → Value.okWide Tryd.prog W .any base t v := hval0
  have hW' := hW
  obtain ⟨p, q, hA0, hV, rfl, hfz, hnd⟩ := hW
  have hA : DataW.TrodAll enc Tryd.prog W 0 (fun _ => true) true Tryd.f4.params.toList args.toList ds p := hA0
  rw [Tryd.params4] at hA hval
  obtain ⟨v0, vs0, d0, ds0, p0, q0, hargs, rfl, rfl, h0, r0⟩ := trodAll_cons hA
  obtain ⟨rfl, rfl, rfl⟩ := trodAll_nil r0
  obtain rfl : args = #[v0] := by cases args; simp_all
  obtain ⟨rfl, rfl⟩ := trodVars_none hV
  have k0 := h0
  have lt0 : ∀ x ∈ p0, x.block < W.heap.size := by obtain ⟨m, hm⟩ := k0; exact DataW.trod_lt m _ _ _ hm
  obtain ⟨x0, l0, b0, rfl, rx0⟩ := open_prefix (hval 0 30 v0 rfl rfl) h0
  clear hA0 hval0
  refine (addrPrints_law x0 l0 b0 rx0 (tab_of_laid hL)).mono fun e W' ⟨he, hon⟩ => ?_
  subst he
  have bel : Below W.heap.size W W' := hon.below (fun x hx => by cases hx) (Nat.le_refl _)
  exact ⟨_, rfl, _, _, _, [], _, [], hW', trodAll_mk1 (shut_bool Tryd.underlying4 _), (trodAll_cons_mk (Below.trod laidOut_all (by kernel_rfl) (of_decide_eq_true (by kernel_rfl)) k0 bel lt0) trodAll_mk0), rfl, bel.frame _, fun h => by cases h⟩

theorem over_addrPrints : Rows.addrPrintsRow.holds Tryd.pinned (OpenSpec.ofChange Rows.addrPrintsSpec) :=
  OpenClaim.holds_of_wide 4 Tryd.f4 rfl rfl rfl rfl rfl rfl rfl ⟨rfl, rfl, rfl, rfl, rfl⟩ rfl rfl rfl rfl rfl (by kernel_rfl) Tryd.func4 (by kernel_rfl)
    (of_decide_eq_true (by kernel_rfl)) (by unfold Func.isWrapper; first | (rw [if_pos (by decide +kernel)]; kernel_rfl) | (rw [if_neg (by decide +kernel)]; exact ⟨rfl, rfl⟩))
    (fun os started H enc _ => lifted_addrPrints os started H enc)

theorem addrPrints_proved : Rows.AddrPrintsCardSaid :=
  Claim7.holds_tied_plain_at .later [] [.data, .data, .data, .data, .pinned] true (true, "1c13f6778641fbd9339352b0fdcecd8ec4d825a2d7a48c39a6f6d5a1a29be5e6") false
    over_addrPrints (fun _ h => by cases h) (by kernel_rfl) (fun _ h => by cases h) addrPrints_row_tie rfl ⟨rfl, rfl⟩ (by kernel_rfl) rfl
    (fun f fn hf hfn => by
      obtain rfl : f = 4 := Option.some.inj ((show Tryd.prog.funcNamed "snicket/snicketlaw04.AddrPrints" = some 4 by kernel_rfl).symm.trans hf) |>.symm
      obtain rfl : fn = Tryd.f4 := (Option.some.inj (Tryd.func4.symm.trans hfn)).symm
      exact ⟨by kernel_rfl, fun j t ht => by
        rw [Tryd.params4] at ht
        have hm : t ∈ [30] := by simpa using Array.mem_of_getElem? ht
        have hall : ([30].all fun u => !Tryd.prog.wantsStandIn u) = true := by kernel_rfl
        exact (show Tryd.prog.wantsStandIn t = false by simpa using List.all_eq_true.1 hall t hm)⟩)
    (by kernel_rfl)
#print axioms addrPrints_proved
end Go.Proofs.YthecnaclfhfilaaDoor

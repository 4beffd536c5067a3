/-
  NumPrints: what is printed is read again, and the layer prints as the reference does. Proved for every input; no condition.
-/
import Derived.Test.YtjkgmkkhjpcngaaDoorLaid
import Derived.Test.YtjkgmkkhjpcngaaDoorNlp
import Derived.Test.YtjkgmkkhjpcngaaDoorOpen
import Derived.Test.YtjkgmkkhjpcngaaDoorTie
import Derived.Test.YtjkgmkkhjpcngaaDoorCards
import Derived.ChangeMaps5
import Derived.SevenTiedAt
namespace Go.Proofs.YtjkgmkkhjpcngaaDoor
open Go.RowKit Go.Deep Go.ChangeShapes Go.WideShapes Go.ChangeAt
open Go.ChangeMaps (open_string shut_string)

theorem u64_of {n : Int} (h : (Lit.int .u64 n).wf = true) : 0 ≤ n ∧ n ≤ 18446744073709551615 := by
  simp only [Lit.wf, Bool.and_eq_true, decide_eq_true_eq] at h
  have e1 : IntKind.u64.min = 0 := rfl
  have e2 : IntKind.u64.max = 18446744073709551615 := rfl
  omega
theorem u8_of {n : Int} (h : (Lit.int .u8 n).wf = true) : 0 ≤ n ∧ n ≤ 255 := by
  simp only [Lit.wf, Bool.and_eq_true, decide_eq_true_eq] at h
  have e1 : IntKind.u8.min = 0 := rfl
  have e2 : IntKind.u8.max = 255 := rfl
  omega
theorem numPrints_law (a : Int) (ha : (Lit.int .u64 a).wf = true) (v : Value) (zs : List Int) {w : World} (hv : Rd w [] v (ints .u8 zs)) (hz : ∀ n ∈ zs, (Lit.int .u8 n).wf = true) (htab : Tab w) :
    Calls Tryd.prog 4 #[.int .u64 a, v] w fun e w' => e = .returned (.bool true) ∧ Only [] w w' := by
  obtain ⟨l, rfl⟩ := byts_of zs fun n hn => u8_of (hz n hn)
  have hr := u64_of ha
  obtain ⟨u, rfl⟩ : ∃ u : Nat, a = (u : Int) := ⟨a.toNat, by omega⟩
  exact numPrints_walk u (by omega) v l w hv htab

set_option maxRecDepth 100000 in
theorem lifted_numPrints (os : Os) (started : os.Started) (H : Type) (enc : TypeId × Value → H) :
    ReturnsInHanded {} Tryd.checked os 4 .any (fun w args => (Rows.numPrintsSpec.pre enc Tryd.prog Tryd.f4 Rows.numPrintsRow.domain false w args ∧ laidMetH Tryd.prog laidAll w) ∧ sizedMet enc Tryd.prog Tryd.f4 (OpenSpec.ofChange Rows.numPrintsSpec) false w args)
      (Rows.numPrintsSpec.post enc Tryd.prog Tryd.f4 false true false false) := by
  refine returnsInHanded_of_change_and (C := Tryd.checked) (X := fun w _ => laidMetH Tryd.prog laidAll w) (fun _ _ _ hh h => h.of_heap hh) own_all started (by kernel_rfl) Tryd.func4
    (ChangeSpec.witness_shaped (enc := enc) (C := Tryd.checked) (os := os) (X := fun w _ => laidMetH Tryd.prog laidAll w) false (World.doorLaid Tryd.prog 400 os) #[.int .u64 0, .slice none 0 0] 8 rfl (World.shaped_of_RefB (by kernel_rfl) (by kernel_rfl)) (by kernel_rfl) (by kernel_rfl) (by kernel_rfl) (door_met os _)) ?_
  intro W base args ds gs before hval0 hW hcnd _ hL _
  have hval : ∀ (j : Nat) t v, Tryd.f4.params[j]? = some t → args[j]? = some v → Value.okWide Tryd.prog W .any base t v := hval0
  have hW' := hW
  obtain ⟨p, q, hA0, hV, rfl, hfz, hnd⟩ := hW
  have hA : DataW.TrodAll enc Tryd.prog W 0 (fun _ => true) true Tryd.f4.params.toList args.toList ds p := hA0
  rw [Tryd.params4] at hA hval
  obtain ⟨v0, vs0, d0, ds0, p0, q0, hargs, rfl, rfl, h0, r0⟩ := trodAll_cons hA
  obtain ⟨v1, vs1, d1, ds1, p1, q1, rfl, rfl, rfl, h1, r1⟩ := trodAll_cons r0
  obtain ⟨rfl, rfl, rfl⟩ := trodAll_nil r1
  obtain rfl : args = #[v0, v1] := by cases args; simp_all
  obtain ⟨rfl, rfl⟩ := trodVars_none hV
  obtain ⟨a0, rfl, rfl, rfl, w0⟩ := open_int Tryd.underlying23 (hval 0 23 v0 rfl rfl) h0
  obtain ⟨a1, len1, cap1, rfl⟩ := okWide_slice Tryd.underlying27 (hval 1 27 v1 rfl rfl)
  have k1 := h1
  have lt1 : ∀ x ∈ p1, x.block < W.heap.size := by obtain ⟨m, hm⟩ := k1; exact DataW.trod_lt m _ _ _ hm
  obtain ⟨z1, w1, f1⟩ := rd_of_trod (k := .u8) Tryd.underlying27 Tryd.underlying5 (by kernel_rfl) h1
  clear hA0 hval0
  refine (numPrints_law a0 w0 _ z1 w1 f1 (tab_of_laid hL)).mono fun e W' ⟨he, hon⟩ => ?_
  subst he
  have bel : Below W.heap.size W W' := hon.below (fun x hx => by cases hx) (Nat.le_refl _)
  exact ⟨_, rfl, _, _, _, [], _, [], hW', trodAll_mk1 (shut_bool Tryd.underlying4 _), (trodAll_cons_mk (shut_int Tryd.underlying23 w0) (trodAll_cons_mk (Below.trod laidOut_all (by kernel_rfl) (of_decide_eq_true (by kernel_rfl)) k1 bel lt1) trodAll_mk0)), rfl, bel.frame _, fun h => by cases h⟩

theorem over_numPrints : Rows.numPrintsRow.holds Tryd.pinned (OpenSpec.ofChange Rows.numPrintsSpec) :=
  OpenClaim.holds_of_wide 4 Tryd.f4 rfl rfl rfl rfl rfl rfl rfl ⟨rfl, rfl, rfl, rfl, rfl⟩ rfl rfl rfl rfl rfl (by kernel_rfl) Tryd.func4 (by kernel_rfl)
    (of_decide_eq_true (by kernel_rfl)) (by unfold Func.isWrapper; first | (rw [if_pos (by decide +kernel)]; kernel_rfl) | (rw [if_neg (by decide +kernel)]; exact ⟨rfl, rfl⟩))
    (fun os started H enc _ => lifted_numPrints os started H enc)

theorem numPrints_proved : Rows.NumPrintsCardSaid :=
  Claim7.holds_tied_plain_at .later [] [.data, .data, .data] true (true, "30e5146775801ffcf6668b580fa8080efb826836bfc0b918f6a7e3488418aba9") false
    over_numPrints (fun _ h => by cases h) (by kernel_rfl) (fun _ h => by cases h) numPrints_row_tie rfl ⟨rfl, rfl⟩ (by kernel_rfl) rfl
    (fun f fn hf hfn => by
      obtain rfl : f = 4 := Option.some.inj ((show Tryd.prog.funcNamed "snicket/snicketlaw01.NumPrints" = some 4 by kernel_rfl).symm.trans hf) |>.symm
      obtain rfl : fn = Tryd.f4 := (Option.some.inj (Tryd.func4.symm.trans hfn)).symm
      exact ⟨by kernel_rfl, fun j t ht => by
        rw [Tryd.params4] at ht
        have hm : t ∈ [23, 27] := by simpa using Array.mem_of_getElem? ht
        have hall : ([23, 27].all fun u => !Tryd.prog.wantsStandIn u) = true := by kernel_rfl
        exact (show Tryd.prog.wantsStandIn t = false by simpa using List.all_eq_true.1 hall t hm)⟩)
    (by kernel_rfl)
#print axioms numPrints_proved
end Go.Proofs.YtjkgmkkhjpcngaaDoor

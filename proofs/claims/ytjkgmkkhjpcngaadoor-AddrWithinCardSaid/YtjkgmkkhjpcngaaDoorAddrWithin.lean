/-
  AddrWithin: of any two prefixes whether one lies within the other one is what the chapter says; then all its addresses are the other one's. Proved for every input; no condition.
-/
import Derived.Test.YtjkgmkkhjpcngaaDoorLaid
import Derived.Test.YtjkgmkkhjpcngaaDoorAw2
import Derived.Test.YtjkgmkkhjpcngaaDoorApo
import Derived.Test.YtjkgmkkhjpcngaaDoorTie
import Derived.Test.YtjkgmkkhjpcngaaDoorCards
import Derived.ChangeMaps5
import Derived.SevenTiedAt
namespace Go.Proofs.YtjkgmkkhjpcngaaDoor
open Go.RowKit Go.Deep Go.ChangeShapes Go.WideShapes Go.ChangeAt

theorem addrWithin_law (x : Value) (l : List UInt8) (b : Int) {w : World} (hx : Rd w [] x (ints .u8 (byts l))) (y : Value) (m : List UInt8) (c : Int) (hy : Rd w [] y (ints .u8 (byts m))) (u : Value) (zs : List Int) (hu : Rd w [] u (ints .u8 zs)) (hz : ∀ n ∈ zs, (Lit.int .u8 n).wf = true) (htab : Tab w) :
    Calls Tryd.prog 6 #[.agg #[x, .int .i64 b], .agg #[y, .int .i64 c], u] w fun e w' => e = .returned (.bool true) ∧ Only [] w w' := by
  obtain ⟨a, rfl⟩ := byts_of zs fun n hn => u8_in (hz n hn)
  exact addrWithin_walk x y u l m a b c w hx hy hu htab

set_option maxRecDepth 100000 in
theorem lifted_addrWithin (os : Os) (started : os.Started) (H : Type) (enc : TypeId × Value → H) :
    ReturnsInHanded {} Tryd.checked os 6 .any (fun w args => (Rows.addrWithinSpec.pre enc Tryd.prog Tryd.f6 Rows.addrWithinRow.domain false w args ∧ laidMetH Tryd.prog laidAll w) ∧ sizedMet enc Tryd.prog Tryd.f6 (OpenSpec.ofChange Rows.addrWithinSpec) false w args)
      (Rows.addrWithinSpec.post enc Tryd.prog Tryd.f6 false true false false) := by
  refine returnsInHanded_of_change_and (C := Tryd.checked) (X := fun w _ => laidMetH Tryd.prog laidAll w) (fun _ _ _ hh h => h.of_heap hh) own_all started (by kernel_rfl) Tryd.func6
    (ChangeSpec.witness_shaped (enc := enc) (C := Tryd.checked) (os := os) (X := fun w _ => laidMetH Tryd.prog laidAll w) false (World.doorLaid Tryd.prog 400 os) #[.agg #[.slice none 0 0, .int .i64 0], .agg #[.slice none 0 0, .int .i64 0], .slice none 0 0] 8 rfl (World.shaped_of_RefB (by kernel_rfl) (by kernel_rfl)) (by kernel_rfl) (by kernel_rfl) (by kernel_rfl) (door_met os _)) ?_
  intro W base args ds gs before hval0 hW hcnd _ hL _
  have hval : ∀ (j : Nat) t v, Tryd.f6.params[j]? = some t → args[j]? = some v → Value.okWide Tryd.prog W .any base t v := hval0
  have hW' := hW
  obtain ⟨p, q, hA0, hV, rfl, hfz, hnd⟩ := hW
  have hA : DataW.TrodAll enc Tryd.prog W 0 (fun _ => true) true Tryd.f6.params.toList args.toList ds p := hA0
  rw [Tryd.params6] at hA hval
  obtain ⟨v0, vs0, d0, ds0, p0, q0, hargs, rfl, rfl, h0, r0⟩ := trodAll_cons hA
  obtain ⟨v1, vs1, d1, ds1, p1, q1, rfl, rfl, rfl, h1, r1⟩ := trodAll_cons r0
  obtain ⟨v2, vs2, d2, ds2, p2, q2, rfl, rfl, rfl, h2, r2⟩ := trodAll_cons r1
  obtain ⟨rfl, rfl, rfl⟩ := trodAll_nil r2
  obtain rfl : args = #[v0, v1, v2] := by cases args; simp_all
  obtain ⟨rfl, rfl⟩ := trodVars_none hV
  have k0 := h0
  have lt0 : ∀ x ∈ p0, x.block < W.heap.size := by obtain ⟨m, hm⟩ := k0; exact DataW.trod_lt m _ _ _ hm
  obtain ⟨x0, l0, b0, rfl, rx0⟩ := open_prefix (hval 0 36 v0 rfl rfl) h0
  have k1 := h1
  have lt1 : ∀ x ∈ p1, x.block < W.heap.size := by obtain ⟨m, hm⟩ := k1; exact DataW.trod_lt m _ _ _ hm
  obtain ⟨x1, l1, b1, rfl, rx1⟩ := open_prefix (hval 1 36 v1 rfl rfl) h1
  obtain ⟨a2, len2, cap2, rfl⟩ := okWide_slice Tryd.underlying27 (hval 2 27 v2 rfl rfl)
  have k2 := h2
  have lt2 : ∀ x ∈ p2, x.block < W.heap.size := by obtain ⟨m, hm⟩ := k2; exact DataW.trod_lt m _ _ _ hm
  obtain ⟨z2, w2, f2⟩ := rd_of_trod (k := .u8) Tryd.underlying27 Tryd.underlying5 (by kernel_rfl) h2
  clear hA0 hval0
  refine (addrWithin_law x0 l0 b0 rx0 x1 l1 b1 rx1 _ z2 w2 f2 (tab_of_laid hL)).mono fun e W' ⟨he, hon⟩ => ?_
  subst he
  have bel : Below W.heap.size W W' := hon.below (fun x hx => by cases hx) (Nat.le_refl _)
  exact ⟨_, rfl, _, _, _, [], _, [], hW', trodAll_mk1 (shut_bool Tryd.underlying4 _), (trodAll_cons_mk (Below.trod laidOut_all (by kernel_rfl) (of_decide_eq_true (by kernel_rfl)) k0 bel lt0) (trodAll_cons_mk (Below.trod laidOut_all (by kernel_rfl) (of_decide_eq_true (by kernel_rfl)) k1 bel lt1) (trodAll_cons_mk (Below.trod laidOut_all (by kernel_rfl) (of_decide_eq_true (by kernel_rfl)) k2 bel lt2) trodAll_mk0))), rfl, bel.frame _, fun h => by cases h⟩

theorem over_addrWithin : Rows.addrWithinRow.holds Tryd.pinned (OpenSpec.ofChange Rows.addrWithinSpec) :=
  OpenClaim.holds_of_wide 6 Tryd.f6 rfl rfl rfl rfl rfl rfl rfl ⟨rfl, rfl, rfl, rfl, rfl⟩ rfl rfl rfl rfl rfl (by kernel_rfl) Tryd.func6 (by kernel_rfl)
    (of_decide_eq_true (by kernel_rfl)) (by unfold Func.isWrapper; first | (rw [if_pos (by decide +kernel)]; kernel_rfl) | (rw [if_neg (by decide +kernel)]; exact ⟨rfl, rfl⟩))
    (fun os started H enc _ => lifted_addrWithin os started H enc)

theorem addrWithin_proved : Rows.AddrWithinCardSaid :=
  Claim7.holds_tied_plain_at .later [] [.data, .data, .data] true (true, "30e5146775801ffcf6668b580fa8080efb826836bfc0b918f6a7e3488418aba9") false
    over_addrWithin (fun _ h => by cases h) (by kernel_rfl) (fun _ h => by cases h) addrWithin_row_tie rfl ⟨rfl, rfl⟩ (by kernel_rfl) rfl
    (fun f fn hf hfn => by
      obtain rfl : f = 6 := Option.some.inj ((show Tryd.prog.funcNamed "snicket/snicketlaw04.AddrWithin" = some 6 by kernel_rfl).symm.trans hf) |>.symm
      obtain rfl : fn = Tryd.f6 := (Option.some.inj (Tryd.func6.symm.trans hfn)).symm
      exact ⟨by kernel_rfl, fun j t ht => by
        rw [Tryd.params6] at ht
        have hm : t ∈ [36, 36, 27] := by simpa using Array.mem_of_getElem? ht
        have hall : ([36, 36, 27].all fun u => !Tryd.prog.wantsStandIn u) = true := by kernel_rfl
        exact (show Tryd.prog.wantsStandIn t = false by simpa using List.all_eq_true.1 hall t hm)⟩)
    (by kernel_rfl)
#print axioms addrWithin_proved
end Go.Proofs.YtjkgmkkhjpcngaaDoor

/-
  RoamPlans: of any journey whether it is right, the plan up to any second, how many Moves it has, and where any host is, are what the chapter says, or there is its error. Proved for every input; no condition.
-/
import Derived.Test.YteoifokmbkpbnaaRows
import Derived.ChangeMaps5
import Derived.Test.YteoifokmbkpbnaaQ14
import Derived.Test.YteoifokmbkpbnaaQ15
import Derived.Test.YteoifokmbkpbnaaQ16
namespace Go.Proofs.Yteoifokmbkpbnaa
open Go.RowKit Go.Deep Go.ChangeShapes Go.WideShapes Go.ChangeAt

theorem roamPlans_law (mv rv : Value) (m : List (Int × Int)) (rs : List Rt) {w : World} (hm : RdS 2 ptc w [] mv m) (hmf : ∀ p ∈ m, Fit p) (hr : RdR w [] rv rs) (hf : ∀ r ∈ rs, FitR r) (U : Int) (_hU : (Lit.int .i64 U).wf = true) (host : Int) (_hh : (Lit.int .i64 host).wf = true) (sec : Int) (hs : (Lit.int .i64 sec).wf = true) :
    Calls Try.prog 4 #[.agg #[mv, rv], .int .i64 U, .int .i64 host, .int .i64 sec] w fun e w' => e = .returned (.bool true) ∧ Only [] w w' := by
  have bs := bounds_i64 hs
  cases hhv : heavyV m rs with
  | true => exact rp_heavy w mv rv m rs U host sec hm hmf hr hf hhv
  | false =>
    by_cases h1 : 60 < U ∧ U ≤ 1000
    · exact rp_mid w mv rv m rs U host sec hm hmf hr hf hhv h1.1 h1.2
    · cases hj : jrV m rs with
      | false => exact rp_bad w mv rv m rs U host sec hm hmf hr hf hhv (by omega) hj
      | true =>
        by_cases hh : host < 0 ∨ (rs.length : Int) ≤ host
        · by_cases h0 : host < 0
          · by_cases u1 : U < 0
            · exact rp_u1_h1 w mv rv m rs U host sec hm hmf hr hf hhv hj (.inl u1) u1 h0
            · by_cases u2 : 1000 < U
              · exact rp_u2_h1 w mv rv m rs U host sec hm hmf hr hf hhv hj (.inr u2) u2 h0
              · obtain ⟨UN, rfl⟩ := Int.eq_ofNat_of_zero_le (show 0 ≤ U by omega)
                exact rp_u3_h1 w mv rv m rs UN host sec hm hmf hr hf hhv hj (by omega) h0
          · have h2 : (rs.length : Int) ≤ host := by omega
            by_cases u1 : U < 0
            · exact rp_u1_h2 w mv rv m rs U host sec hm hmf hr hf hhv hj (.inl u1) u1 h0 h2
            · by_cases u2 : 1000 < U
              · exact rp_u2_h2 w mv rv m rs U host sec hm hmf hr hf hhv hj (.inr u2) u2 h0 h2
              · obtain ⟨UN, rfl⟩ := Int.eq_ofNat_of_zero_le (show 0 ≤ U by omega)
                exact rp_u3_h2 w mv rv m rs UN host sec hm hmf hr hf hhv hj (by omega) h0 h2
        · obtain ⟨hN, rfl⟩ := Int.eq_ofNat_of_zero_le (show 0 ≤ host by omega)
          have h2 : hN < rs.length := by omega
          by_cases h3 : sec < 0
          · by_cases u1 : U < 0
            · exact rp_u1_h3 w mv rv m rs U hN sec hm hmf hr hf hhv hj (.inl u1) u1 h2 h3
            · by_cases u2 : 1000 < U
              · exact rp_u2_h3 w mv rv m rs U hN sec hm hmf hr hf hhv hj (.inr u2) u2 h2 h3
              · obtain ⟨UN, rfl⟩ := Int.eq_ofNat_of_zero_le (show 0 ≤ U by omega)
                exact rp_u3_h3 w mv rv m rs UN hN sec hm hmf hr hf hhv hj (by omega) h2 h3
          · obtain ⟨sN, rfl⟩ := Int.eq_ofNat_of_zero_le (show 0 ≤ sec by omega)
            have h4 : sN ≤ 9223372036854775807 := by omega
            by_cases u1 : U < 0
            · exact rp_u1_h4 w mv rv m rs U hN sN hm hmf hr hf hhv hj (.inl u1) u1 h2 h4
            · by_cases u2 : 1000 < U
              · exact rp_u2_h4 w mv rv m rs U hN sN hm hmf hr hf hhv hj (.inr u2) u2 h2 h4
              · obtain ⟨UN, rfl⟩ := Int.eq_ofNat_of_zero_le (show 0 ≤ U by omega)
                exact rp_u3_h4 w mv rv m rs UN hN sN hm hmf hr hf hhv hj (by omega) h2 h4

theorem own_roamPlans : ownKnob Try.prog.godebug = none := by kernel_rfl
theorem laidOut_roamPlans : laidOutB Try.prog = true := by kernel_rfl

set_option maxRecDepth 100000 in
theorem lifted_roamPlans (os : Os) (started : os.Started) (H : Type) (enc : TypeId × Value → H) :
    ReturnsInHanded {} Try.checked os 4 .any (Rows.roamPlansSpec.pre6 enc Try.prog Try.f4 Rows.roamPlansRow.domain false) (Rows.roamPlansSpec.post enc Try.prog Try.f4 false true false false) := by
  refine returnsInHanded_of_change (C := Try.checked) own_roamPlans started (by kernel_rfl) Try.func4
    (ChangeSpec.witness6 (enc := enc) (C := Try.checked) false ⟨#[], #[.agg #[.slice none 0 0, .slice none 0 0], .int .i64 0, .int .i64 0, .int .i64 0], []⟩ 8 (by kernel_rfl) (by kernel_rfl) (by kernel_rfl) (by kernel_rfl)) ?_
  intro W base args ds gs before hval0 hW hcnd _
  have hval : ∀ (j : Nat) t v, Try.f4.params[j]? = some t → args[j]? = some v → Value.okWide Try.prog W .any base t v := hval0
  have hW' := hW
  obtain ⟨p, q, hA0, hV, rfl, hfz, hnd⟩ := hW
  have hA : DataW.TrodAll enc Try.prog W 0 (fun _ => true) true Try.f4.params.toList args.toList ds p := hA0
  rw [Try.params4] at hA hval
  obtain ⟨v0, vs0, d0, ds0, p0, q0, hargs, rfl, rfl, h0, r0⟩ := trodAll_cons hA
  obtain ⟨v1, vs1, d1, ds1, p1, q1, rfl, rfl, rfl, h1, r1⟩ := trodAll_cons r0
  obtain ⟨v2, vs2, d2, ds2, p2, q2, rfl, rfl, rfl, h2, r2⟩ := trodAll_cons r1
  obtain ⟨v3, vs3, d3, ds3, p3, q3, rfl, rfl, rfl, h3, r3⟩ := trodAll_cons r2
  obtain ⟨rfl, rfl, rfl⟩ := trodAll_nil r3
  obtain rfl : args = #[v0, v1, v2, v3] := by cases args; simp_all
  obtain ⟨rfl, rfl⟩ := trodVars_none hV
  have k0 := h0
  have lt0 : ∀ x ∈ p0, x.block < W.heap.size := by obtain ⟨m, hm⟩ := k0; exact DataW.trod_lt m _ _ _ hm
  obtain ⟨mv0, rv0, ms0, rs0, rfl, hm0, hmf0, hr0, hrf0⟩ := open_journey (hval 0 49 v0 rfl rfl) h0
  obtain ⟨a1, rfl, rfl, rfl, w1⟩ := open_int Try.underlying3 (hval 1 3 v1 rfl rfl) h1
  obtain ⟨a2, rfl, rfl, rfl, w2⟩ := open_int Try.underlying3 (hval 2 3 v2 rfl rfl) h2
  obtain ⟨a3, rfl, rfl, rfl, w3⟩ := open_int Try.underlying3 (hval 3 3 v3 rfl rfl) h3
  clear hA0 hval0
  refine (roamPlans_law mv0 rv0 ms0 rs0 hm0 hmf0 hr0 hrf0 a1 w1 a2 w2 a3 w3).mono fun e W' ⟨he, hon⟩ => ?_
  subst he
  have bel : Below W.heap.size W W' := hon.below (fun x hx => by cases hx) (Nat.le_refl _)
  exact ⟨_, rfl, _, _, _, [], _, [], hW', trodAll_mk1 (shut_bool Try.underlying4 _), (trodAll_cons_mk (Below.trod laidOut_roamPlans (by kernel_rfl) (of_decide_eq_true (by kernel_rfl)) k0 bel lt0) (trodAll_cons_mk (shut_int Try.underlying3 w1) (trodAll_cons_mk (shut_int Try.underlying3 w2) (trodAll_cons_mk (shut_int Try.underlying3 w3) trodAll_mk0)))), rfl, bel.frame _, fun h => by cases h⟩

theorem over_roamPlans : Rows.roamPlansRow.holds Try.pinned (OpenSpec.ofChange Rows.roamPlansSpec) :=
  OpenClaim.holds_of_wide 4 Try.f4 rfl rfl rfl rfl rfl rfl rfl ⟨rfl, rfl, rfl, rfl, rfl⟩ rfl rfl rfl rfl rfl (by kernel_rfl) Try.func4 (by kernel_rfl)
    (of_decide_eq_true (by kernel_rfl)) (by unfold Func.isWrapper; first | (rw [if_pos (by decide +kernel)]; kernel_rfl) | (rw [if_neg (by decide +kernel)]; exact ⟨rfl, rfl⟩))
    (fun os started H enc _ => lifted_roamPlans os started H enc)

theorem roamPlans_proved : Rows.RoamPlansSaid := over_roamPlans
#print axioms roamPlans_proved
end Go.Proofs.Yteoifokmbkpbnaa

/-
  TrieActs: whatever is put, taken away and dropped, each answer, the rows, and any address's owner, are what the chapter says. Proved for every input; no condition.
-/
import Derived.Test.YtokaobilphfdoaaRows
import Derived.Test.YtokaobilphfdoaaQ16
namespace Go.Proofs.Ytokaobilphfdoaa
open Go.RowKit Go.Deep Go.ChangeShapes Go.WideShapes Go.ChangeAt

set_option maxRecDepth 100000 in
theorem acts_longl (A : Option Addr) (n cap : Nat) (B : Option Addr) (m capb : Nat) (w : World) (h : 60 < n) :
    Calls Try.prog 3 #[.slice A n cap, .slice B m capb] w fun e w' => e = .returned (.bool true) ∧ Only [] w w' := by
  have h60I : (60 : Int) < (n : Int) := by omega
  have h60b : decide ((60 : Int) < (n : Int)) = true := by rw [decide_eq_true_iff]; omega
  clear h
  go_enter Try.func3, Try.ntmps3
  go_wp2_with (first
    | (go_at_call 4; refine (awake08 _).mono ?_; rintro e w1 ⟨rfl, ho⟩; have HO := hide ho; clear ho))
  refine bodyPost_ret (results_tmp (by rfl) _ _ _) (by rfl) ?_
  exact ⟨rfl, HO.out⟩
set_option maxRecDepth 100000 in
theorem acts_longa (A : Option Addr) (n cap : Nat) (B : Option Addr) (m capb : Nat) (w : World) (hn : n ≤ 60) (h : 40 < m) :
    Calls Try.prog 3 #[.slice A n cap, .slice B m capb] w fun e w' => e = .returned (.bool true) ∧ Only [] w w' := by
  have h60I : ¬ (60 : Int) < (n : Int) := by omega
  have h60b : decide ((60 : Int) < (n : Int)) = false := by rw [decide_eq_false_iff_not]; omega
  have h40I : (40 : Int) < (m : Int) := by omega
  have h40b : decide ((40 : Int) < (m : Int)) = true := by rw [decide_eq_true_iff]; omega
  clear h hn
  go_enter Try.func3, Try.ntmps3
  go_wp2_with (first
    | (go_at_call 4; refine (awake08 _).mono ?_; rintro e w1 ⟨rfl, ho⟩; have HO := hide ho; clear ho))
  refine bodyPost_ret (results_tmp (by rfl) _ _ _) (by rfl) ?_
  exact ⟨rfl, HO.out⟩
theorem trieActs_law (v : Value) (l : List Ac) {w : World} (hl : ActsRd w v l) (va : Value) (xs : List Int) (ha : Rd w [] va (ints .u8 xs)) (fa : ∀ n ∈ xs, (Lit.int .u8 n).wf = true) :
    Calls Try.prog 3 #[v, va] w fun e w' => e = .returned (.bool true) ∧ Only [] w w' := by
  obtain ⟨al, rfl⟩ := byts_of xs fun n hn => u8_in (fa n hn)
  obtain ⟨A, cap, hv, _, _⟩ := hl.1.form
  obtain ⟨B, capb, hva, _, _⟩ := ha.formb
  by_cases h60 : l.length ≤ 60
  · by_cases h40 : al.length ≤ 40
    · exact acts_walk v va l al w hl ha h60 h40
    · rw [hv, hva]; exact acts_longa A _ cap B _ capb w h60 (by omega)
  · rw [hv, hva]; exact acts_longl A _ cap B _ capb w (by omega)

theorem own_trieActs : ownKnob Try.prog.godebug = none := by kernel_rfl
theorem laidOut_trieActs : laidOutB Try.prog = true := by kernel_rfl

set_option maxRecDepth 100000 in
theorem lifted_trieActs (os : Os) (started : os.Started) (H : Type) (enc : TypeId × Value → H) :
    ReturnsInHanded {} Try.checked os 3 .any (Rows.trieActsSpec.pre6 enc Try.prog Try.f3 Rows.trieActsRow.domain false) (Rows.trieActsSpec.post enc Try.prog Try.f3 false true false false) := by
  refine returnsInHanded_of_change (C := Try.checked) own_trieActs started (by kernel_rfl) Try.func3
    (ChangeSpec.witness6 (enc := enc) (C := Try.checked) false ⟨#[], #[.slice none 0 0, .slice none 0 0], []⟩ 8 (by kernel_rfl) (by kernel_rfl) (by kernel_rfl) (by kernel_rfl)) ?_
  intro W base args ds gs before hval0 hW hcnd _
  have hval : ∀ (j : Nat) t v, Try.f3.params[j]? = some t → args[j]? = some v → Value.okWide Try.prog W .any base t v := hval0
  have hW' := hW
  obtain ⟨p, q, hA0, hV, rfl, hfz, hnd⟩ := hW
  have hA : DataW.TrodAll enc Try.prog W 0 (fun _ => true) true Try.f3.params.toList args.toList ds p := hA0
  rw [Try.params3] at hA hval
  obtain ⟨v0, vs0, d0, ds0, p0, q0, hargs, rfl, rfl, h0, r0⟩ := trodAll_cons hA
  obtain ⟨v1, vs1, d1, ds1, p1, q1, rfl, rfl, rfl, h1, r1⟩ := trodAll_cons r0
  obtain ⟨rfl, rfl, rfl⟩ := trodAll_nil r1
  obtain rfl : args = #[v0, v1] := by cases args; simp_all
  obtain ⟨rfl, rfl⟩ := trodVars_none hV
  obtain ⟨a0, len0, cap0, rfl⟩ := okWide_slice Try.underlying22 (hval 0 22 v0 rfl rfl)
  have k0 := h0
  have lt0 : ∀ x ∈ p0, x.block < W.heap.size := by obtain ⟨m, hm⟩ := k0; exact DataW.trod_lt m _ _ _ hm
  obtain ⟨z0, w0⟩ := open_acts8 h0
  obtain ⟨a1, len1, cap1, rfl⟩ := okWide_slice Try.underlying23 (hval 1 23 v1 rfl rfl)
  have k1 := h1
  have lt1 : ∀ x ∈ p1, x.block < W.heap.size := by obtain ⟨m, hm⟩ := k1; exact DataW.trod_lt m _ _ _ hm
  obtain ⟨z1, w1, f1⟩ := rd_of_trod (k := .u8) Try.underlying23 Try.underlying5 (by kernel_rfl) h1
  clear hA0 hval0
  refine (trieActs_law _ z0 w0 _ z1 w1 f1).mono fun e W' ⟨he, hon⟩ => ?_
  subst he
  have bel : Below W.heap.size W W' := hon.below (fun x hx => by cases hx) (Nat.le_refl _)
  exact ⟨_, rfl, _, _, _, [], _, [], hW', trodAll_mk1 (shut_bool Try.underlying4 _), (trodAll_cons_mk (Below.trod laidOut_trieActs (by kernel_rfl) (of_decide_eq_true (by kernel_rfl)) k0 bel lt0) (trodAll_cons_mk (Below.trod laidOut_trieActs (by kernel_rfl) (of_decide_eq_true (by kernel_rfl)) k1 bel lt1) trodAll_mk0)), rfl, bel.frame _, fun h => by cases h⟩

theorem over_trieActs : Rows.trieActsRow.holds Try.pinned (OpenSpec.ofChange Rows.trieActsSpec) :=
  OpenClaim.holds_of_wide 3 Try.f3 rfl rfl rfl rfl rfl rfl rfl ⟨rfl, rfl, rfl, rfl, rfl⟩ rfl rfl rfl rfl rfl (by kernel_rfl) Try.func3 (by kernel_rfl)
    (of_decide_eq_true (by kernel_rfl)) (by unfold Func.isWrapper; first | (rw [if_pos (by decide +kernel)]; kernel_rfl) | (rw [if_neg (by decide +kernel)]; exact ⟨rfl, rfl⟩))
    (fun os started H enc _ => lifted_trieActs os started H enc)

theorem trieActs_proved : Rows.TrieActsSaid := over_trieActs
#print axioms trieActs_proved
end Go.Proofs.Ytokaobilphfdoaa

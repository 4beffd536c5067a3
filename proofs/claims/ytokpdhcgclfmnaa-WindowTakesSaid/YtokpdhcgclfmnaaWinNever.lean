/-
  WindowNever: what was taken, or refused as too old, isn't taken any more. Proved for every input; no condition.
-/
import Derived.Test.YtokpdhcgclfmnaaRows
import Derived.Test.YtokpdhcgclfmnaaWin5
import Derived.Test.YtokpdhcgclfmnaaOpen
namespace Go.Proofs.Ytokpdhcgclfmnaa
open Go.RowKit Go.Deep Go.ChangeShapes Go.WideShapes Go.ChangeAt

theorem wf_u64 {n : Int} (h : (Lit.int .u64 n).wf = true) : 0 ≤ n ∧ n < 18446744073709551616 := by
  have := bounds_u64 h
  omega

theorem nats_of (zs : List Int) (h : ∀ n ∈ zs, (Lit.int .u64 n).wf = true) : ∃ ns : List Nat, zs = nats ns ∧ ∀ n ∈ ns, n < 18446744073709551616 := by
  refine ⟨zs.map Int.toNat, ?_, fun n hn => ?_⟩
  · unfold nats
    rw [List.map_map]
    conv => lhs; rw [← List.map_id zs]
    apply List.map_congr_left
    intro z hz
    have := (wf_u64 (h z hz)).1
    simp only [id, Function.comp]
    omega
  · obtain ⟨z, hz, rfl⟩ := List.mem_map.1 hn
    have := wf_u64 (h z hz)
    omega

theorem would_nine_mono {L : List Nat} {c x : Nat} (h : wouldL L c = 9) : wouldL (takeL L x) c = 9 := by
  unfold takeL
  split
  · unfold wouldL at h ⊢
    split at h
    · cases h
    · split at h
      · rename_i h1 h2
        have hx : c ∈ L ++ [x] ∨ c < maxL (L ++ [x]) ∧ 2048 ≤ maxL (L ++ [x]) - c := by
          rw [maxL_snoc]
          rcases h2.2 with h3 | ⟨h3, h4⟩
          · exact .inl (List.mem_append_left _ h3)
          · right; omega
        rw [if_neg h1, if_pos ⟨(by simp), hx⟩]
      · cases h
  · exact h
theorem would_taken {L : List Nat} {c : Nat} (h : wouldL L c = 0) : wouldL (takeL L c) c = 9 := by
  have h1 := (would_zero h).1
  unfold takeL
  rw [if_pos h]
  unfold wouldL
  rw [if_neg (by omega), if_pos ⟨by simp, .inl (by simp)⟩]
theorem would_cases (L : List Nat) (c : Nat) : wouldL L c = 0 ∨ wouldL L c = 9 ∨ wouldL L c = 10 := by
  unfold wouldL
  split
  · simp
  · split <;> simp
theorem take_same {L : List Nat} {c : Nat} (h : wouldL L c ≠ 0) : takeL L c = L := by unfold takeL; rw [if_neg h]

def NeverRel (w1 : World) (b c n : Nat) (g i : Value) (wr : World) : Prop :=
  ∃ (k : Nat) (L : List Nat), k ≤ n ∧ i = .int .i64 k ∧ g = .bool (decide (wouldL L c = 9)) ∧ Hid (WinSet wr b L) ∧ Hid (Only [b] w1 wr)

set_option maxRecDepth 100000 in
set_option maxHeartbeats 4000000 in
theorem never_law (v : Value) (ns : List Nat) (c : Nat) (w : World) (hv : Rd w [] v (ints .u64 (nats ns))) (hns : ∀ n ∈ ns, n < 18446744073709551616) (hc : c < 18446744073709551616) :
    Calls Try.prog 8 #[v, .int .u64 c] w fun e w' => e = .returned (.bool true) ∧ Only [] w w' := by
  obtain ⟨A, cap, rfl, hcap, hm⟩ := hv.formi
  rw [nats_length] at hv hcap ⊢
  unfold maxLen at hm
  have hat := hide hv.at_.2.2.2
  obtain ⟨n, hn⟩ : ∃ n, n = ns.length := ⟨_, rfl⟩
  have HN := hide hn
  have HNS := hide hns
  have HC := hide hc
  rw [← hn] at hcap ⊢
  clear hv hn hns hc
  by_cases h200 : 200 < n
  · have h200' : (200 : Int) < n := by omega
    go_enter Try.func8, Try.ntmps8
    go_wp2_with (go_at_call 23; refine (awake07 _).mono ?_; rintro e w1 ⟨rfl, ho1⟩)
    go_ret
    exact ⟨rfl, ho1⟩
  have h200' : ¬ (200 : Int) < n := by omega
  go_enter Try.func8, Try.ntmps8
  go_wp2_with (first
    | (go_at_call 23; refine (awake07 _).mono ?_; rintro e w1 ⟨rfl, ho1⟩)
    | (go_at_call 24; refine (win_new _).mono ?_; rintro e w2 ⟨b, rfl, hw2, ho2, hb⟩))
  have hsz := ho1.size
  have e0 : decide (wouldL [] c = 9) = false := by
    rw [decide_eq_false_iff_not]
    unfold wouldL
    split
    · decide
    · rw [if_neg (by simp)]; decide
  have hrel0 : NeverRel w1 b c n (.bool false) (.int .i64 0) w2 := ⟨0, [], Nat.zero_le _, rfl, by rw [e0], hide (WinSet.new hw2), hide (ho2.mono (by simp))⟩
  have HO1 := hide ho1
  clear hw2 ho1 ho2 e0
  go_loopw [6, 7] (fun g i wr => NeverRel w1 b c n g i wr) (fun _ i _ => n - (intOf i).toNat)
  case atStart => exact hrel0
  case round =>
    clear hrel0
    obtain ⟨k, L, hk, rfl, rfl, hw, hon⟩ := hrel
    rcases Nat.lt_or_ge k n with hlt | hge
    case inr =>
      have hi : ¬ (k : Int) < n := by omega
      clear hge
      go_wp2_with (first
        | (go_at_call 26; refine (win_top_nil _).mono ?_; rintro e w5 ⟨rfl, rfl⟩)
        | (go_at_call 25; refine (win_take_nil _ c).mono ?_; rintro e w5 ⟨rfl, rfl⟩)
        | (go_at_call 30; refine (win_would_nil _ c).mono ?_; rintro e w5 ⟨rfl, rfl⟩)
        | (go_at_call 27; refine (win_missing_nil _).mono ?_; rintro e w5 ⟨rfl, rfl⟩)
        | (go_at_call 28; refine (win_clone_nil _).mono ?_; rintro e w5 ⟨rfl, rfl⟩))
      go_ret
      exact ⟨rfl, ((HO1.out.mono (by simp)).trans hon.out).mono (fun x hx => .inr (by simp at hx; omega))⟩
    case inl =>
      have hi : (k : Int) < n := by omega
      have hkx : ns[k]? = some (ns[k]'(by rw [← HN.out]; exact hlt)) := List.getElem?_eq_getElem _
      generalize (ns[k]'(by rw [← HN.out]; exact hlt)) = x at hkx
      obtain ⟨g, o, rfl, _, hgl, hcx⟩ := hat.out k _ (ints_get (nats_get hkx))
      have hgb : g ∉ [b] := by simp; omega
      have hcx := ((cell_only hon.out (a := ⟨g, o + k, none⟩) (show g < w1.heap.size by omega) hgb).trans (cell_only HO1.out hgl (by simp))).trans hcx
      have HX := hide (HNS.out x (List.mem_of_getElem? hkx))
      have hgr : g < wr.heap.size := by have := hon.out.size; omega
      clear hkx
      have eG' := hide (fun (h : wouldL L c = 9) => would_nine_mono (x := x) h)
      by_cases hxc : x = c
      · have hq : ((x : Int) == c) = true := by rw [beq_iff_eq, hxc]
        rcases would_cases L c with h0 | h9 | h10
        · have HR := hide (show wouldL L x = 0 by rw [hxc]; exact h0)
          have HL := hide (show takeL L x = takeL L x from rfl)
          have h9' : wouldL (takeL L x) c = 9 := by rw [hxc]; exact would_taken h0
          have HR2 := hide h9'
          have HD := hide (decide_eq_true h9')
          rw [show decide (wouldL L c = 9) = false by rw [h0]; decide]
          clear h0 h9' hxc
          go_wp2_with (first
          | (go_at_call 25; refine (winset_take_at _ b L (takeL L x) x 0 hw.out HX.out HR.out HL.out).mono ?_; rintro e w3 ⟨rfl, hw3, ho3⟩; have hcx3 : w3.cell? ⟨g, o + k, none⟩ = some (.int .u64 x) := (cell_only ho3 (a := ⟨g, o + k, none⟩) hgr hgb).trans hcx; have HW3 := hide hw3; have HO3 := hide ho3; clear hw3 ho3)
          | (go_at_call 30; refine (winset_would _ b (takeL L x) c HW3.out HC.out).mono ?_; rw [HR2.out]; rintro e w4 ⟨rfl, rfl⟩))
          go_roundw
          case rel => exact ⟨k + 1, _, by omega, by go_num, by rw [HD.out], HW3, hide (hon.out.trans HO3.out)⟩
          case measure => simp [intOf]; omega

        · have HR := hide (show wouldL L x = 9 by rw [hxc]; exact h9)
          have HL := hide (show takeL L x = L by rw [hxc]; exact take_same (by rw [h9]; decide))
          have HR2 := hide h9
          have HD := hide (decide_eq_true h9)
          rw [show decide (wouldL L c = 9) = true from decide_eq_true h9]
          clear h9 hxc
          go_wp2_with (first
          | (go_at_call 25; refine (winset_take_at _ b L L x 9 hw.out HX.out HR.out HL.out).mono ?_; rintro e w3 ⟨rfl, hw3, ho3⟩; have hcx3 : w3.cell? ⟨g, o + k, none⟩ = some (.int .u64 x) := (cell_only ho3 (a := ⟨g, o + k, none⟩) hgr hgb).trans hcx; have HW3 := hide hw3; have HO3 := hide ho3; clear hw3 ho3)
          | (go_at_call 30; refine (winset_would _ b L c HW3.out HC.out).mono ?_; rw [HR2.out]; rintro e w4 ⟨rfl, rfl⟩))
          go_roundw
          case rel => exact ⟨k + 1, _, by omega, by go_num, by rw [HD.out], HW3, hide (hon.out.trans HO3.out)⟩
          case measure => simp [intOf]; omega

        · have HR := hide (show wouldL L x = 10 by rw [hxc]; exact h10)
          have HL := hide (show takeL L x = L by rw [hxc]; exact take_same (by rw [h10]; decide))
          have HR2 := hide h10
          have HD := hide (show decide (wouldL L c = 9) = false by rw [h10]; decide)
          rw [show decide (wouldL L c = 9) = false by rw [h10]; decide]
          clear h10 hxc
          go_wp2_with (first
          | (go_at_call 25; refine (winset_take_at _ b L L x 10 hw.out HX.out HR.out HL.out).mono ?_; rintro e w3 ⟨rfl, hw3, ho3⟩; have hcx3 : w3.cell? ⟨g, o + k, none⟩ = some (.int .u64 x) := (cell_only ho3 (a := ⟨g, o + k, none⟩) hgr hgb).trans hcx; have HW3 := hide hw3; have HO3 := hide ho3; clear hw3 ho3)
          | (go_at_call 30; refine (winset_would _ b L c HW3.out HC.out).mono ?_; rw [HR2.out]; rintro e w4 ⟨rfl, rfl⟩))
          go_roundw
          case rel => exact ⟨k + 1, _, by omega, by go_num, by rw [HD.out], HW3, hide (hon.out.trans HO3.out)⟩
          case measure => simp [intOf]; omega

      · have hq : ((x : Int) == c) = false := by rw [beq_eq_false_iff_ne]; omega
        have HL := hide (show takeL L x = takeL L x from rfl)
        obtain ⟨r, HR⟩ : ∃ r, Hid (wouldL L x = r) := ⟨_, hide rfl⟩
        clear hxc
        by_cases hG : wouldL L c = 9
        · have h9' := eG'.out hG
          have HR2 := hide h9'
          have HD := hide (decide_eq_true h9')
          rw [show decide (wouldL L c = 9) = true from decide_eq_true hG]
          clear hG h9'
          go_wp2_with (first
          | (go_at_call 25; refine (winset_take_at _ b L (takeL L x) x r hw.out HX.out HR.out HL.out).mono ?_; rintro e w3 ⟨rfl, hw3, ho3⟩; have hcx3 : w3.cell? ⟨g, o + k, none⟩ = some (.int .u64 x) := (cell_only ho3 (a := ⟨g, o + k, none⟩) hgr hgb).trans hcx; have HW3 := hide hw3; have HO3 := hide ho3; clear hw3 ho3)
          | (go_at_call 30; refine (winset_would _ b (takeL L x) c HW3.out HC.out).mono ?_; rw [HR2.out]; rintro e w4 ⟨rfl, rfl⟩))
          go_roundw
          case rel => exact ⟨k + 1, _, by omega, by go_num, by rw [HD.out], HW3, hide (hon.out.trans HO3.out)⟩
          case measure => simp [intOf]; omega

        · rw [show decide (wouldL L c = 9) = false from decide_eq_false hG]
          clear hG
          by_cases h9' : wouldL (takeL L x) c = 9
          · have HR2 := hide h9'
            have HD := hide (decide_eq_true h9')
            clear h9'
            go_wp2_with (first
          | (go_at_call 25; refine (winset_take_at _ b L (takeL L x) x r hw.out HX.out HR.out HL.out).mono ?_; rintro e w3 ⟨rfl, hw3, ho3⟩; have hcx3 : w3.cell? ⟨g, o + k, none⟩ = some (.int .u64 x) := (cell_only ho3 (a := ⟨g, o + k, none⟩) hgr hgb).trans hcx; have HW3 := hide hw3; have HO3 := hide ho3; clear hw3 ho3)
          | (go_at_call 30; refine (winset_would _ b (takeL L x) c HW3.out HC.out).mono ?_; rw [HR2.out]; rintro e w4 ⟨rfl, rfl⟩))
            go_roundw
            case rel => exact ⟨k + 1, _, by omega, by go_num, by rw [HD.out], HW3, hide (hon.out.trans HO3.out)⟩
            case measure => simp [intOf]; omega

          · have HD := hide (decide_eq_false h9')
            generalize hr2 : wouldL (takeL L x) c = r2 at h9'
            have HR2 := hide hr2
            have hq9 : (r2 == 9) = false := beq_eq_false_iff_ne.2 h9'
            clear h9' hr2
            go_wp2_with (first
          | (go_at_call 25; refine (winset_take_at _ b L (takeL L x) x r hw.out HX.out HR.out HL.out).mono ?_; rintro e w3 ⟨rfl, hw3, ho3⟩; have hcx3 : w3.cell? ⟨g, o + k, none⟩ = some (.int .u64 x) := (cell_only ho3 (a := ⟨g, o + k, none⟩) hgr hgb).trans hcx; have HW3 := hide hw3; have HO3 := hide ho3; clear hw3 ho3)
          | (go_at_call 30; refine (winset_would _ b (takeL L x) c HW3.out HC.out).mono ?_; rw [HR2.out]; rintro e w4 ⟨rfl, rfl⟩))
            go_roundw
            case rel => exact ⟨k + 1, _, by omega, by go_num, by rw [HD.out], HW3, hide (hon.out.trans HO3.out)⟩
            case measure => simp [intOf]; omega


theorem never_law' (v : Value) (zs : List Int) {w : World} (hv : Rd w [] v (ints .u64 zs)) (hz : ∀ n ∈ zs, (Lit.int .u64 n).wf = true) (c : Int) (hc : (Lit.int .u64 c).wf = true) :
    Calls Try.prog 8 #[v, .int .u64 c] w fun e w' => e = .returned (.bool true) ∧ Only [] w w' := by
  obtain ⟨ns, rfl, hns⟩ := nats_of zs hz
  obtain ⟨h0, h1⟩ := wf_u64 hc
  obtain ⟨m, rfl⟩ := Int.eq_ofNat_of_zero_le h0
  exact never_law v ns m w hv hns (by omega)

theorem own_windowNever : ownKnob Try.prog.godebug = none := by kernel_rfl
theorem laidOut_windowNever : laidOutB Try.prog = true := by kernel_rfl

set_option maxRecDepth 100000 in
theorem lifted_windowNever (os : Os) (started : os.Started) (H : Type) (enc : TypeId × Value → H) :
    ReturnsInHanded {} Try.checked os 8 .any (Rows.windowNeverSpec.pre6 enc Try.prog Try.f8 Rows.windowNeverRow.domain false) (Rows.windowNeverSpec.post enc Try.prog Try.f8 false true false false) := by
  refine returnsInHanded_of_change (C := Try.checked) own_windowNever started (by kernel_rfl) Try.func8
    (ChangeSpec.witness6 (enc := enc) (C := Try.checked) false ⟨#[], #[.slice none 0 0, .int .u64 0], []⟩ 8 (by kernel_rfl) (by kernel_rfl) (by kernel_rfl) (by kernel_rfl)) ?_
  intro W base args ds gs before hval0 hW hcnd _
  have hval : ∀ (j : Nat) t v, Try.f8.params[j]? = some t → args[j]? = some v → Value.okWide Try.prog W .any base t v := hval0
  have hW' := hW
  obtain ⟨p, q, hA0, hV, rfl, hfz, hnd⟩ := hW
  have hA : DataW.TrodAll enc Try.prog W 0 (fun _ => true) true Try.f8.params.toList args.toList ds p := hA0
  rw [Try.params8] at hA hval
  obtain ⟨v0, vs0, d0, ds0, p0, q0, hargs, rfl, rfl, h0, r0⟩ := trodAll_cons hA
  obtain ⟨v1, vs1, d1, ds1, p1, q1, rfl, rfl, rfl, h1, r1⟩ := trodAll_cons r0
  obtain ⟨rfl, rfl, rfl⟩ := trodAll_nil r1
  obtain rfl : args = #[v0, v1] := by cases args; simp_all
  obtain ⟨rfl, rfl⟩ := trodVars_none hV
  obtain ⟨a0, len0, cap0, rfl⟩ := okWide_slice Try.underlying34 (hval 0 34 v0 rfl rfl)
  have k0 := h0
  have lt0 : ∀ x ∈ p0, x.block < W.heap.size := by obtain ⟨m, hm⟩ := k0; exact DataW.trod_lt m _ _ _ hm
  obtain ⟨z0, w0, f0⟩ := rd_of_trod (k := .u64) Try.underlying34 Try.underlying33 (by kernel_rfl) h0
  obtain ⟨a1, rfl, rfl, rfl, w1⟩ := open_int Try.underlying33 (hval 1 33 v1 rfl rfl) h1
  clear hA0 hval0
  refine (never_law' _ z0 w0 f0 a1 w1).mono fun e W' ⟨he, hon⟩ => ?_
  subst he
  have bel : Below W.heap.size W W' := hon.below (fun x hx => by cases hx) (Nat.le_refl _)
  exact ⟨_, rfl, _, _, _, [], _, [], hW', trodAll_mk1 (shut_bool Try.underlying4 _), (trodAll_cons_mk (Below.trod laidOut_windowNever (by kernel_rfl) (of_decide_eq_true (by kernel_rfl)) k0 bel lt0) (trodAll_cons_mk (shut_int Try.underlying33 w1) trodAll_mk0)), rfl, bel.frame _, fun h => by cases h⟩

theorem over_windowNever : Rows.windowNeverRow.holds Try.pinned (OpenSpec.ofChange Rows.windowNeverSpec) :=
  OpenClaim.holds_of_wide 8 Try.f8 rfl rfl rfl rfl rfl rfl rfl ⟨rfl, rfl, rfl, rfl, rfl⟩ rfl rfl rfl rfl rfl (by kernel_rfl) Try.func8 (by kernel_rfl)
    (of_decide_eq_true (by kernel_rfl)) (by unfold Func.isWrapper; first | (rw [if_pos (by decide +kernel)]; kernel_rfl) | (rw [if_neg (by decide +kernel)]; exact ⟨rfl, rfl⟩))
    (fun os started H enc _ => lifted_windowNever os started H enc)

theorem windowNever_proved : Rows.WindowNeverSaid := over_windowNever
#print axioms windowNever_proved
end Go.Proofs.Ytokpdhcgclfmnaa

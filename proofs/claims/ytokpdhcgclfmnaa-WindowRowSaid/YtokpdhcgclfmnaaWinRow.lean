/-
  WindowRow: of counters in a row, with some left out, all that come are taken, and what is missing is what was left out. Proved for every input; no condition.
-/
import Derived.Test.YtokpdhcgclfmnaaRows
import Derived.Test.YtokpdhcgclfmnaaWinNever
namespace Go.Proofs.Ytokpdhcgclfmnaa
open Go.RowKit Go.Deep Go.ChangeShapes Go.WideShapes Go.ChangeAt

/-- The counters that came. -/
def rowL (f e k : Nat) : List Nat := ((List.range k).filter fun i => decide (i % e ≠ 1)).map fun i => f + i
theorem rowL_skip (f e k : Nat) (h : k % e = 1) : rowL f e (k + 1) = rowL f e k := by
  unfold rowL
  rw [List.range_succ, List.filter_append, List.map_append]
  simp [h]
theorem rowL_take (f e k : Nat) (h : k % e ≠ 1) : rowL f e (k + 1) = rowL f e k ++ [f + k] := by
  unfold rowL
  rw [List.range_succ, List.filter_append, List.map_append]
  simp [h]
theorem mem_rowL (f e k x : Nat) : x ∈ rowL f e k ↔ f ≤ x ∧ x - f < k ∧ (x - f) % e ≠ 1 := by
  unfold rowL
  simp only [List.mem_map, List.mem_filter, List.mem_range, decide_eq_true_eq]
  constructor
  · rintro ⟨i, ⟨h1, h2⟩, rfl⟩
    refine ⟨by omega, by omega, ?_⟩
    rw [Nat.add_sub_cancel_left]
    exact h2
  · rintro ⟨h1, h2, h3⟩
    exact ⟨x - f, ⟨h2, h3⟩, by omega⟩
theorem maxL_mem : ∀ (L : List Nat), L ≠ [] → maxL L ∈ L := by
  refine snoc_ind (fun h => absurd rfl h) (fun L x ih _ => ?_)
  rw [maxL_snoc]
  by_cases h : L = []
  · subst h
    have : maxL [] = 0 := rfl
    rw [this, Nat.zero_max]
    simp
  · have := ih h
    rcases Nat.le_total (maxL L) x with hx | hx
    · rw [Nat.max_eq_right hx]; simp
    · rw [Nat.max_eq_left hx]; exact List.mem_append_left _ this
theorem rowL_ne (f e k : Nat) (he : 2 ≤ e) (hk : 1 ≤ k) : rowL f e k ≠ [] := by
  intro h
  have : f ∈ rowL f e k := (mem_rowL f e k f).2 ⟨Nat.le_refl _, by omega, by rw [Nat.sub_self, Nat.zero_mod]; omega⟩
  rw [h] at this
  cases this
theorem rowL_max_lt (f e k : Nat) (hk : 1 ≤ k) : maxL (rowL f e k) < f + k := by
  refine maxL_lt _ (by omega) _ fun x hx => ?_
  have := (mem_rowL f e k x).1 hx
  omega
theorem rowL_would (f e k : Nat) (h : f + k < 18446744073709543423) : wouldL (rowL f e k) (f + k) = 0 := by
  unfold wouldL
  rw [if_neg (by omega), if_neg]
  rintro ⟨h1, h2 | ⟨h2, _⟩⟩
  · have := (mem_rowL f e k _).1 h2; omega
  · have := (mem_rowL f e k _).1 (maxL_mem _ h1); omega
theorem rowL_step (f e k : Nat) (h : f + k < 18446744073709543423) (he : k % e ≠ 1) : takeL (rowL f e k) (f + k) = rowL f e (k + 1) := by
  unfold takeL
  rw [if_pos (rowL_would f e k h), rowL_take f e k he]
theorem rowL_max_step (f e k : Nat) (he : k % e ≠ 1) : maxL (rowL f e (k + 1)) = f + k := by
  rw [rowL_take f e k he, maxL_snoc]
  rcases Nat.eq_zero_or_pos k with h | h
  · subst h
    have : maxL (rowL f e 0) = 0 := rfl
    omega
  · have := rowL_max_lt f e k h; omega

/-- The law's own count. -/
def cntR (last f e k : Nat) : Nat := ((List.range k).filter fun j => decide (last - j < f ∨ (last - j - f) % e = 1)).length
theorem cntR_succ (last f e k : Nat) : cntR last f e (k + 1) = cntR last f e k + if last - k < f ∨ (last - k - f) % e = 1 then 1 else 0 := by
  unfold cntR
  rw [List.range_succ, List.filter_append, List.length_append]
  by_cases h : last - k < f ∨ (last - k - f) % e = 1
  · simp [h]
  · simp [h]
theorem cntR_le (last f e k : Nat) : cntR last f e k ≤ k := Nat.le_trans (List.length_filter_le _ _) (by simp)

theorem row_count (f e n : Nat) (he : 2 ≤ e) (hn : 1 ≤ n) (k : Nat) (hk : k = min 2048 (maxL (rowL f e n) + 1)) : (cntR (maxL (rowL f e n)) f e k : Int) = missL (rowL f e n) := by
  have hnd : (rowL f e n).Nodup := by
    unfold rowL
    refine List.Pairwise.map _ (R := fun a b => a ≠ b) (fun a b h h' => h (by omega)) ?_
    exact List.Pairwise.filter _ List.nodup_range
  rw [← miss_eq (rowL f e n) (rowL_ne f e n he hn) hnd k hk]
  congr 1
  unfold cntR cntM
  congr 1
  apply List.filter_congr
  intro j hj
  have hj' := List.mem_range.1 hj
  have hm := rowL_max_lt f e n hn
  rw [Bool.eq_iff_iff, decide_eq_true_eq, Bool.not_eq_true', decide_eq_false_iff_not, mem_rowL]
  omega

set_option maxRecDepth 100000 in
theorem row_out_a (f n e : Int) (w : World) (h1 : n < 1) :
    Calls Try.prog 6 #[.int .u64 f, .int .i64 n, .int .i64 e] w fun e w' => e = .returned (.bool true) ∧ Only [] w w' := by
  go_enter Try.func6, Try.ntmps6
  go_wp2_with (go_at_call 23; refine (awake07 _).mono ?_; rintro e w1 ⟨rfl, ho1⟩)
  go_ret
  exact ⟨rfl, ho1⟩

set_option maxRecDepth 100000 in
theorem row_out_b (f n e : Int) (w : World) (h1 : 1 ≤ n) (h2 : 5000 < n) :
    Calls Try.prog 6 #[.int .u64 f, .int .i64 n, .int .i64 e] w fun e w' => e = .returned (.bool true) ∧ Only [] w w' := by
  go_enter Try.func6, Try.ntmps6
  go_wp2_with (go_at_call 23; refine (awake07 _).mono ?_; rintro e w1 ⟨rfl, ho1⟩)
  go_ret
  exact ⟨rfl, ho1⟩

set_option maxRecDepth 100000 in
theorem row_out_c (f n e : Int) (w : World) (h1 : 1 ≤ n) (h2 : n ≤ 5000) (h3 : e < 2) :
    Calls Try.prog 6 #[.int .u64 f, .int .i64 n, .int .i64 e] w fun e w' => e = .returned (.bool true) ∧ Only [] w w' := by
  go_enter Try.func6, Try.ntmps6
  go_wp2_with (go_at_call 23; refine (awake07 _).mono ?_; rintro e w1 ⟨rfl, ho1⟩)
  go_ret
  exact ⟨rfl, ho1⟩

set_option maxRecDepth 100000 in
theorem row_out_d (f n e : Int) (w : World) (h1 : 1 ≤ n) (h2 : n ≤ 5000) (h3 : 2 ≤ e) (h4 : 5000 < e) :
    Calls Try.prog 6 #[.int .u64 f, .int .i64 n, .int .i64 e] w fun e w' => e = .returned (.bool true) ∧ Only [] w w' := by
  go_enter Try.func6, Try.ntmps6
  go_wp2_with (go_at_call 23; refine (awake07 _).mono ?_; rintro e w1 ⟨rfl, ho1⟩)
  go_ret
  exact ⟨rfl, ho1⟩

set_option maxRecDepth 100000 in
theorem row_out_e (f n e : Int) (w : World) (h1 : 1 ≤ n) (h2 : n ≤ 5000) (h3 : 2 ≤ e) (h4 : e ≤ 5000) (h5 : decide ((18446744073709533423 : Int) < f) = true) :
    Calls Try.prog 6 #[.int .u64 f, .int .i64 n, .int .i64 e] w fun e w' => e = .returned (.bool true) ∧ Only [] w w' := by
  go_enter Try.func6, Try.ntmps6
  go_wp2_with (go_at_call 23; refine (awake07 _).mono ?_; rintro e w1 ⟨rfl, ho1⟩)
  go_ret
  exact ⟨rfl, ho1⟩

def RowRel (w1 : World) (b f e n : Nat) (l i : Value) (wr : World) : Prop :=
  ∃ k : Nat, k ≤ n ∧ i = .int .i64 k ∧ l = .int .u64 (maxL (rowL f e k) : Nat) ∧ Hid (WinSet wr b (rowL f e k)) ∧ Hid (Only [b] w1 wr)

set_option maxRecDepth 100000 in
set_option maxHeartbeats 2000000 in
theorem row_in (f n e : Nat) (w : World) (h1 : 1 ≤ n) (h2 : n ≤ 5000) (h3 : 2 ≤ e) (h4 : e ≤ 5000) (h5 : f ≤ 18446744073709533423) :
    Calls Try.prog 6 #[.int .u64 f, .int .i64 n, .int .i64 e] w fun e w' => e = .returned (.bool true) ∧ Only [] w w' := by
  have h5' : decide ((18446744073709533423 : Int) < f) = false := by rw [decide_eq_false_iff_not]; omega
  have hf6 : (f : Int) ≤ 18446744073709533423 := by omega
  have H5 := hide h5
  clear h5
  go_enter Try.func6, Try.ntmps6
  go_wp2_with (first
    | (go_at_call 23; refine (awake07 _).mono ?_; rintro e w1 ⟨rfl, ho1⟩)
    | (go_at_call 24; refine (win_new _).mono ?_; rintro e w2 ⟨b, rfl, hw2, ho2, hb⟩))
  have hsz := ho1.size
  have hrel0 : RowRel w1 b f e n (.int .u64 0) (.int .i64 0) w2 := ⟨0, Nat.zero_le _, rfl, rfl, hide (WinSet.new hw2), hide (ho2.mono (by simp))⟩
  have HO1 := hide ho1
  clear hw2 ho1 ho2
  go_loopw [8, 9] (fun l i wr => RowRel w1 b f e n l i wr) (fun _ i _ => n - (intOf i).toNat)
  case atStart => exact hrel0
  case round =>
    clear hrel0
    obtain ⟨k, hk, rfl, rfl, hw, hon⟩ := hrel
    rcases Nat.lt_or_ge k n with hlt | hge
    case inl =>
      have hi : (k : Int) < n := by omega
      have hk5 : (k : Int) < 5000 := by omega
      by_cases hm : k % e = 1
      · have hm' : ((k : Int) % e == 1) = true := by rw [beq_iff_eq]; omega
        have HR := hide (rowL_skip f e k hm)
        clear hm
        go_wp2
        go_roundw
        case rel => exact ⟨k + 1, by omega, by go_num, by rw [HR.out], by rw [HR.out]; exact hw, hon⟩
        case measure => simp [intOf]; omega
      · have hm' : ((k : Int) % e == 1) = false := by rw [beq_eq_false_iff_ne]; omega
        have hfk : f + k < 18446744073709543423 := by have := H5.out; omega
        have HT := hide (winset_take_at wr b _ _ (f + k) 0 hw.out (by omega) (rowL_would f e k hfk) (rowL_step f e k hfk hm))
        rw [show ((f + k : Nat) : Int) = (f : Int) + k by omega] at HT
        have HM := hide (rowL_max_step f e k hm)
        clear hm hfk
        go_wp2_with (go_at_call 25; refine HT.out.mono ?_; rintro e w3 ⟨rfl, hw3, ho3⟩; have HW3 := hide hw3; have HO3 := hide ho3; clear hw3 ho3)
        go_roundw
        case rel => exact ⟨k + 1, by omega, by go_num, by rw [HM.out]; go_num, HW3, hide (hon.out.trans HO3.out)⟩
        case measure => simp [intOf]; omega
    case inr =>
      have hi : ¬ (k : Int) < n := by omega
      obtain rfl : k = n := by omega
      have HC := hide (row_count f e k h3 h1)
      have HML := hide (rowL_max_lt f e k h1)
      have hmb := HML.out
      have hne := hide (rowL_ne f e k h3 h1)
      clear hge
      have HW := hw
      generalize hmx : maxL (rowL f e k) = last at HC hmb HML
      have HMX := hide hmx
      clear hmx
      have hlast : (last : Int) ≤ 18446744073709543423 := by have := H5.out; omega
      go_wp2_with fail
      go_loop [10, 11] (fun m i => ∃ j : Nat, j ≤ 2048 ∧ j ≤ last + 1 ∧ i = .int .i64 j ∧ m = .int .i64 (cntR last f e j : Nat)) (fun _ i => 2048 - (intOf i).toNat)
      case atStart => exact ⟨0, Nat.zero_le _, Nat.zero_le _, rfl, rfl⟩
      case round =>
        obtain ⟨j, hj, hjl, rfl, rfl⟩ := hrel
        have hcl := cntR_le last f e j
        have hjI : (j : Int) ≤ 2048 := by omega
        by_cases hfin : j < 2048 ∧ j ≤ last
        · obtain ⟨hj1, hj2⟩ := hfin
          have hj1' : (j : Int) < 2048 := by omega
          have hj2' : (j : Int) ≤ last := by omega
          have HS := hide (cntR_succ last f e j)
          generalize cntR last f e j = q at HS hcl ⊢
          by_cases hc1 : last - j < f
          · have hc1' : (last : Int) - j < f := by omega
            have HS' := hide (show cntR last f e (j + 1) = q + 1 by rw [HS.out, if_pos (.inl hc1)])
            clear HS hc1
            go_wp2
            go_round
            case rel => exact ⟨j + 1, by omega, by omega, by go_num, by rw [HS'.out]; go_num⟩
            case measure => simp [intOf]; omega
          · have hc1' : (f : Int) ≤ (last : Int) - j := by omega
            have he1 : (e : Int) ≤ 5000 := by omega
            have he2 : (2 : Int) ≤ e := by omega
            have ecast : ((last - j - f : Nat) : Int) = (last : Int) - j - f := by omega
            by_cases hc2 : (last - j - f) % e = 1
            · have hc2' : (((last : Int) - j - f) % e == 1) = true := by rw [← ecast, beq_iff_eq]; omega
              have HS' := hide (show cntR last f e (j + 1) = q + 1 by rw [HS.out, if_pos (.inr hc2)])
              clear HS hc1 hc2 ecast
              go_wp2
              go_round
              case rel => exact ⟨j + 1, by omega, by omega, by go_num, by rw [HS'.out]; go_num⟩
              case measure => simp [intOf]; omega
            · have hc2' : (((last : Int) - j - f) % e == 1) = false := by rw [← ecast, beq_eq_false_iff_ne]; omega
              have HS' := hide (show cntR last f e (j + 1) = q by rw [HS.out, if_neg (by rintro (h | h); exact hc1 h; exact hc2 h), Nat.add_zero])
              clear HS hc1 hc2 ecast
              go_wp2
              go_round
              case rel => exact ⟨j + 1, by omega, by omega, by go_num, by rw [HS'.out]⟩
              case measure => simp [intOf]; omega
        · have HCE := hide (HC.out j (by omega))
          have hnb := hide (decide_eq_true hne.out)
          by_cases hj1 : j < 2048
          · have hj1' : (j : Int) < 2048 := by omega
            have hj2' : ¬ (j : Int) ≤ last := by omega
            clear hfin hj1
            go_wp2_with (first
              | (go_at_call 26; refine (winset_top _ b _ hw.out).mono ?_; rw [HMX.out, hnb.out]; rintro e w5 ⟨rfl, rfl⟩)
              | (go_at_call 27; refine (winset_missing _ b _ hw.out).mono ?_; rw [← HCE.out]; rintro e w5 ⟨rfl, rfl⟩))
            go_ret
            exact ⟨by simp, ((HO1.out.mono (by simp)).trans hon.out).mono (fun x hx => .inr (by simp at hx; omega))⟩
          · have hj1' : ¬ (j : Int) < 2048 := by omega
            clear hfin hj1
            go_wp2_with (first
              | (go_at_call 26; refine (winset_top _ b _ hw.out).mono ?_; rw [HMX.out, hnb.out]; rintro e w5 ⟨rfl, rfl⟩)
              | (go_at_call 27; refine (winset_missing _ b _ hw.out).mono ?_; rw [← HCE.out]; rintro e w5 ⟨rfl, rfl⟩))
            go_ret
            exact ⟨by simp, ((HO1.out.mono (by simp)).trans hon.out).mono (fun x hx => .inr (by simp at hx; omega))⟩

theorem row_law (f : Int) (hf : (Lit.int .u64 f).wf = true) (n : Int) (_ : (Lit.int .i64 n).wf = true) (e : Int) (_ : (Lit.int .i64 e).wf = true) {w : World} :
    Calls Try.prog 6 #[.int .u64 f, .int .i64 n, .int .i64 e] w fun e w' => e = .returned (.bool true) ∧ Only [] w w' := by
  obtain ⟨h0, h1⟩ := wf_u64 hf
  rcases Int.lt_or_le n 1 with k1 | k1
  · exact row_out_a f n e w k1
  rcases Int.lt_or_le 5000 n with k2 | k2
  · exact row_out_b f n e w k1 k2
  rcases Int.lt_or_le e 2 with k3 | k3
  · exact row_out_c f n e w k1 k2 k3
  rcases Int.lt_or_le 5000 e with k4 | k4
  · exact row_out_d f n e w k1 k2 k3 k4
  by_cases k5 : (18446744073709533423 : Int) < f
  · exact row_out_e f n e w k1 k2 k3 k4 (decide_eq_true k5)
  obtain ⟨f, rfl⟩ := Int.eq_ofNat_of_zero_le h0
  obtain ⟨n, rfl⟩ := Int.eq_ofNat_of_zero_le (show 0 ≤ n by omega)
  obtain ⟨e, rfl⟩ := Int.eq_ofNat_of_zero_le (show 0 ≤ e by omega)
  exact row_in f n e w (by omega) (by omega) (by omega) (by omega) (by omega)

theorem own_windowRow : ownKnob Try.prog.godebug = none := by kernel_rfl
theorem laidOut_windowRow : laidOutB Try.prog = true := by kernel_rfl

set_option maxRecDepth 100000 in
theorem lifted_windowRow (os : Os) (started : os.Started) (H : Type) (enc : TypeId × Value → H) :
    ReturnsInHanded {} Try.checked os 6 .any (Rows.windowRowSpec.pre6 enc Try.prog Try.f6 Rows.windowRowRow.domain false) (Rows.windowRowSpec.post enc Try.prog Try.f6 false true false false) := by
  refine returnsInHanded_of_change (C := Try.checked) own_windowRow started (by kernel_rfl) Try.func6
    (ChangeSpec.witness6 (enc := enc) (C := Try.checked) false ⟨#[], #[.int .u64 0, .int .i64 0, .int .i64 0], []⟩ 8 (by kernel_rfl) (by kernel_rfl) (by kernel_rfl) (by kernel_rfl)) ?_
  intro W base args ds gs before hval0 hW hcnd _
  have hval : ∀ (j : Nat) t v, Try.f6.params[j]? = some t → args[j]? = some v → Value.okWide Try.prog W .any base t v := hval0
  have hW' := hW
  obtain ⟨p, q, hA0, hV, rfl, hfz, hnd⟩ := hW
  have hA : DataW.TrodAll enc Try.prog W 0 (fun _ => true) true Try.f6.params.toList args.toList ds p := hA0
  rw [Try.params6] at hA hval
  obtain ⟨v0, vs0, d0, ds0, p0, q0, hargs, rfl, rfl, h0, r0⟩ := trodAll_cons hA
  obtain ⟨v1, vs1, d1, ds1, p1, q1, rfl, rfl, rfl, h1, r1⟩ := trodAll_cons r0
  obtain ⟨v2, vs2, d2, ds2, p2, q2, rfl, rfl, rfl, h2, r2⟩ := trodAll_cons r1
  obtain ⟨rfl, rfl, rfl⟩ := trodAll_nil r2
  obtain rfl : args = #[v0, v1, v2] := by cases args; simp_all
  obtain ⟨rfl, rfl⟩ := trodVars_none hV
  obtain ⟨a0, rfl, rfl, rfl, w0⟩ := open_int Try.underlying33 (hval 0 33 v0 rfl rfl) h0
  obtain ⟨a1, rfl, rfl, rfl, w1⟩ := open_int Try.underlying3 (hval 1 3 v1 rfl rfl) h1
  obtain ⟨a2, rfl, rfl, rfl, w2⟩ := open_int Try.underlying3 (hval 2 3 v2 rfl rfl) h2
  clear hA0 hval0
  refine (row_law a0 w0 a1 w1 a2 w2).mono fun e W' ⟨he, hon⟩ => ?_
  subst he
  have bel : Below W.heap.size W W' := hon.below (fun x hx => by cases hx) (Nat.le_refl _)
  exact ⟨_, rfl, _, _, _, [], _, [], hW', trodAll_mk1 (shut_bool Try.underlying4 _), (trodAll_cons_mk (shut_int Try.underlying33 w0) (trodAll_cons_mk (shut_int Try.underlying3 w1) (trodAll_cons_mk (shut_int Try.underlying3 w2) trodAll_mk0))), rfl, bel.frame _, fun h => by cases h⟩

theorem over_windowRow : Rows.windowRowRow.holds Try.pinned (OpenSpec.ofChange Rows.windowRowSpec) :=
  OpenClaim.holds_of_wide 6 Try.f6 rfl rfl rfl rfl rfl rfl rfl ⟨rfl, rfl, rfl, rfl, rfl⟩ rfl rfl rfl rfl rfl (by kernel_rfl) Try.func6 (by kernel_rfl)
    (of_decide_eq_true (by kernel_rfl)) (by unfold Func.isWrapper; first | (rw [if_pos (by decide +kernel)]; kernel_rfl) | (rw [if_neg (by decide +kernel)]; exact ⟨rfl, rfl⟩))
    (fun os started H enc _ => lifted_windowRow os started H enc)

theorem windowRow_proved : Rows.WindowRowSaid := over_windowRow
#print axioms windowRow_proved
end Go.Proofs.Ytokpdhcgclfmnaa

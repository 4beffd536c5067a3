/-
  RingActs: of any room, whatever is done to a ring, each answer and what is left are the chapter's. Proved for every input; no condition.
-/
import Derived.Test.YtokpdhcgclfmnaaRows
import Derived.Test.YtokpdhcgclfmnaaRingNil
import Derived.Test.YtokpdhcgclfmnaaOpen
import Derived.Deep.DeepCutAuto
import Derived.Deep.CutBlock
namespace Go.Proofs.Ytokpdhcgclfmnaa
open Go.RowKit Go.Deep Go.ChangeShapes Go.WideShapes Go.ChangeAt

def ActsRd (w : World) (v : Value) (zs : List (Int × Int)) : Prop :=
  ∃ (A : Option Addr) (cap : Nat), v = .slice A zs.length cap ∧ zs.length ≤ cap ∧ cap ≤ maxLen ∧
    (zs = [] ∨ ∃ g o, A = some ⟨g, o, none⟩ ∧ g < w.heap.size ∧ ∀ i z, zs[i]? = some z → w.cell? ⟨g, o + i * 2, none⟩ = some (.int .u8 z.1) ∧ w.cell? ⟨g, o + i * 2 + 1, none⟩ = some (.int .u64 z.2))

theorem acts_of_trod {H : Type} {enc : TypeId × Value → H} {w : World} {base : Nat} {spare : Nat → Bool} {held : Bool} {A : Option Addr} {len cap : Nat} {d : DataW H} {p : List MemPlace}
    (h : DataW.Trod enc Try.prog w base spare held 29 (.slice A len cap) d p) : ∃ zs, ActsRd w (.slice A len cap) zs := by
  obtain ⟨hl, hm, V, hV, hT⟩ := rows_of_trod Try.underlying29 Try.underlying36 (by kernel_rfl) (by kernel_rfl) (by decide) h
  have e0 : ∀ i, i < len → ∃ n, V i 0 = .int .u8 n := fun i hi => by
    obtain ⟨n, y, ht⟩ := hT i hi 0 _ rfl
    obtain ⟨m, hm, _⟩ := DataW.trod_int Try.underlying5 ht
    exact ⟨m, by simpa using hm⟩
  have e1 : ∀ i, i < len → ∃ n, V i 1 = .int .u64 n := fun i hi => by
    obtain ⟨n, y, ht⟩ := hT i hi 1 _ rfl
    obtain ⟨m, hm, _⟩ := DataW.trod_int Try.underlying33 ht
    exact ⟨m, by simpa using hm⟩
  refine ⟨(List.range len).map fun i => (intOf (V i 0), intOf (V i 1)), A, cap, by simp, by simpa using hl, hm, ?_⟩
  rcases Nat.eq_zero_or_pos len with h0 | h0
  · subst h0; exact .inl rfl
  · obtain ⟨g, o, hA, hg, hc⟩ := hV h0
    refine .inr ⟨g, o, hA, hg, fun i z hz => ?_⟩
    simp only [List.getElem?_map] at hz
    rcases Nat.lt_or_ge i len with hi | hi
    · rw [List.getElem?_range hi] at hz
      simp only [Option.map_some, Option.some.injEq] at hz
      subst hz
      obtain ⟨n0, h0'⟩ := e0 i hi
      obtain ⟨n1, h1'⟩ := e1 i hi
      have c0 := hc i hi 0 (by decide)
      have c1 := hc i hi 1 (by decide)
      rw [h0'] at c0
      rw [h1'] at c1
      simp only [h0', h1', intOf]
      exact ⟨c0, c1⟩
    · rw [List.getElem?_eq_none (by simpa using hi)] at hz
      cases hz

/-- What a push does, as the document says it. -/
def pushG (n : Nat) (L : List Int) : Int := if L.length < n then 0 else L.headD 0
def pushB (n : Nat) (L : List Int) : Bool := if L.length < n then false else true
def pushL (n : Nat) (L : List Int) (x : Int) : List Int := if L.length < n then L ++ [x] else L.tail ++ [x]

theorem ringis_push_any (w : World) (b g n : Nat) (L : List Int) (x : Int) (hr : RingIs w b g n L) :
    Calls Try.prog 15 #[.pointer (some ⟨b, 0, none⟩), .int .u64 x] w fun e w' => e = .returned (.tuple #[.int .u64 (pushG n L), .bool (pushB n L)]) ∧ RingIs w' b g n (pushL n L x) ∧ Only [b, g] w w' := by
  unfold pushG pushB pushL
  by_cases hl : L.length < n
  · rw [if_pos hl, if_pos hl, if_pos hl]
    exact ringis_push w b g n L x hr hl
  · rw [if_neg hl, if_neg hl, if_neg hl]
    have hn := hr.len
    match L, hr, hl, hn with
    | [], _, hl, hn => exact absurd (show 0 < n by omega) hl
    | y :: L, hr, hl, hn => exact ringis_push_full w b g n L x y hr (by simp at hl hn; omega)

theorem ref_push_any (w : World) (N : List Nat) (v : Value) (n : Nat) (L : List Int) (x : Int) (hv : Rd w N v (ints .u64 L)) (hN : ∀ z ∈ N, z < w.heap.size) (hl : L.length ≤ n) (h1 : 1 ≤ n) (hr : n ≤ 4096) :
    Calls Try.prog 14 #[v, .int .i64 n, .int .u64 x] w fun e w' => ∃ v', e = .returned (.tuple #[v', .int .u64 (pushG n L), .bool (pushB n L)]) ∧ Rd w' N v' (ints .u64 (pushL n L x)) ∧ Only [] w w' := by
  unfold pushG pushB pushL
  by_cases hl' : L.length < n
  · rw [if_pos hl', if_pos hl', if_pos hl']
    exact (ref_push_fits w N v L n x hv hl' hr).mono fun e w' ⟨v', he, hown, ho⟩ => ⟨v', he, (Rd.of_own hown hN).1, ho⟩
  · rw [if_neg hl', if_neg hl', if_neg hl']
    match L, hv, hl, hl' with
    | [], _, hl, hl' => exact absurd (show 0 < n by omega) hl'
    | y :: L, hv, hl, hl' => exact ref_push_full w N v (y :: L) n x hv y L rfl hN (by simp at hl hl' ⊢; omega) hr

def ActsRel (w1 : World) (b g n m : Nat) (v i : Value) (wr : World) : Prop :=
  ∃ (k : Nat) (L : List Int), k ≤ m ∧ i = .int .i64 k ∧ Hid (RingIs wr b g n L) ∧ Hid (Rd wr [b, g] v (ints .u64 L)) ∧ Hid (Only [b, g] w1 wr)

set_option maxRecDepth 100000 in
theorem acts_long (room : Int) (v : Value) (zs : List (Int × Int)) (w : World) (hz : ActsRd w v zs) (hl : 200 < zs.length) :
    Calls Try.prog 4 #[.int .i64 room, v] w fun e w' => e = .returned (.bool true) ∧ Only [] w w' := by
  obtain ⟨A, cap, rfl, hc, hm, hcell⟩ := hz
  obtain ⟨m, hm'⟩ : ∃ m, m = zs.length := ⟨_, rfl⟩
  rw [← hm'] at hl hc ⊢
  clear hcell hm'
  unfold maxLen at hm
  go_enter Try.func4, Try.ntmps4
  go_wp2_with (first | (go_at_call 12; refine (awake09 _).mono ?_; rintro e w1 ⟨rfl, ho1⟩))
  go_ret
  exact ⟨rfl, ho1⟩

set_option maxRecDepth 100000 in
theorem acts_bad (room : Int) (v : Value) (zs : List (Int × Int)) (w : World) (hz : ActsRd w v zs) (hl : zs.length ≤ 200) (hr : room < 1 ∨ 4096 < room) :
    Calls Try.prog 4 #[.int .i64 room, v] w fun e w' => e = .returned (.bool true) ∧ Only [] w w' := by
  obtain ⟨A, cap, rfl, hc, hm, hcell⟩ := hz
  obtain ⟨m, hm'⟩ : ∃ m, m = zs.length := ⟨_, rfl⟩
  rw [← hm'] at hl hc ⊢
  clear hcell hm'
  unfold maxLen at hm
  rcases hr with hr | hr
  all_goals
    go_enter Try.func4, Try.ntmps4
    go_wp2_with (first
      | (go_at_call 12; refine (awake09 _).mono ?_; rintro e w1 ⟨rfl, ho1⟩)
      | (go_at_call 13; refine (ring_new_bad room _ (by omega)).mono ?_; rintro e w2 ⟨rfl, rfl⟩))
    go_ret
    exact ⟨rfl, ho1⟩

set_option maxRecDepth 100000 in
set_option maxHeartbeats 4000000 in
theorem acts_good (n : Nat) (v : Value) (zs : List (Int × Int)) (w : World) (hz : ActsRd w v zs) (hl : zs.length ≤ 200) (h1 : 1 ≤ n) (h2 : n ≤ 4096) :
    Calls Try.prog 4 #[.int .i64 n, v] w fun e w' => e = .returned (.bool true) ∧ Only [] w w' := by
  obtain ⟨A, cap, rfl, hc, hm, hcell⟩ := hz
  obtain ⟨m, hm'⟩ : ∃ m, m = zs.length := ⟨_, rfl⟩
  have HM := hide hm'
  rw [← hm'] at hl hc ⊢
  have HC := hide hcell
  clear hcell hm'
  unfold maxLen at hm
  go_enter Try.func4, Try.ntmps4
  go_wp2_with (first
    | (go_at_call 12; refine (awake09 _).mono ?_; rintro e w1 ⟨rfl, ho1⟩)
    | (go_at_call 13; refine (ringis_new n _ h1 h2).mono ?_; rintro e w2 ⟨b, g, rfl, hr2, ho2, hb, hg⟩))
  have HO1 := hide ho1
  have hsz := ho1.size
  have hrel0 : ActsRel w1 b g n m (.slice (some ⟨w2.heap.size, 0, none⟩) 0 0) (.int .i64 0) (w2.alloc (.cells #[] 33)) :=
    ⟨0, [], Nat.zero_le _, rfl, hide (hr2.only ((Only.refl [] w2).alloc _) (by simp) (by simp)), hide (rd_new w2 33 [b, g] [] (by have := hr2.lt; simp; omega) (by decide)), hide ((ho2.mono (by simp)).alloc _)⟩
  have hbg := hr2.lt.2.2
  clear hr2 ho1 ho2
  go_loopw [7, 8] (fun v i wr => ActsRel w1 b g n m v i wr) (fun _ i _ => m - (intOf i).toNat)
  case atStart => exact hrel0
  case round =>
    clear hrel0
    obtain ⟨k, L, hk, rfl, hring, hrd, hon⟩ := hrel
    rcases Nat.lt_or_ge k m with hlt | hge
    case inr =>
      have hi : ¬ (k : Int) < m := by omega
      clear hge
      go_wp2_with (first
        | (go_at_call 22; refine (ringis_all _ b g n L hring.out).mono ?_; rintro e w5 ⟨v, rfl, hown, ho5⟩)
        | (go_at_call 21; refine (same_any _ _ L L [] [b, g] _ (Rd.of_own hown (by simp)).1 (hrd.out.only ho5 (by simp))).mono ?_; rintro e w6 ⟨rfl, q, rfl⟩))
      go_ret
      refine ⟨by simp, ?_⟩
      have h15 : Only [b, g] w1 w5 := hon.out.trans (ho5.mono (by simp))
      have h05 : Only [b, g] w w5 := (HO1.out.mono (by simp)).trans h15
      exact ((h05.mono (fun x hx => .inr (by simp at hx; rcases hx with rfl | rfl <;> omega)))).drewN _
    case inl =>
      have hi : (k : Int) < m := by omega
      have hLn := hring.out.len.1
      obtain ⟨⟨kd, x⟩, hz⟩ : ∃ z, zs[k]? = some z := ⟨zs[k]'(by rw [← HM.out]; exact hlt), List.getElem?_eq_getElem _⟩
      have hex : ∃ G O, A = some ⟨G, O, none⟩ ∧ G < w.heap.size ∧ w.cell? ⟨G, O + k * 2, none⟩ = some (.int .u8 kd) ∧ w.cell? ⟨G, O + k * 2 + 1, none⟩ = some (.int .u64 x) := by
        rcases HC.out with h0 | ⟨G, O, hA, hG, hcl⟩
        · rw [h0] at hz; simp at hz
        · exact ⟨G, O, hA, hG, (hcl k _ hz).1, (hcl k _ hz).2⟩
      obtain ⟨G, O, rfl, hG, hck, hcx⟩ := hex
      have hGb : G ∉ [b, g] := by simp; omega
      have hG1 : G < w1.heap.size := by omega
      have hG3 : G < wr.heap.size := by have := hon.out.size; omega
      have hck := ((cell_only hon.out (a := ⟨G, O + k * 2, none⟩) hG1 hGb).trans (cell_only HO1.out hG (by simp))).trans hck
      have hcx := ((cell_only hon.out (a := ⟨G, O + k * 2 + 1, none⟩) hG1 hGb).trans (cell_only HO1.out hG (by simp))).trans hcx
      clear hz
      go_upto_block 2 with (fail)
      go_cut [7] (fun v' wr' => ∃ L', Hid (RingIs wr' b g n L') ∧ Hid (Rd wr' [b, g] v' (ints .u64 L')) ∧ Hid (Only [b, g] w1 wr'))
      case first =>
        by_cases hq0 : kd = 0
        case pos =>
          subst hq0
          go_wp2_with (first
            | (go_at_call 14; go_must (refine (ref_push_any _ [b, g] _ n L x hrd.out (by have := hring.out.lt; simp; omega) hLn h1 h2).mono ?_); rintro e w3 ⟨v', rfl, hrd3, ho3⟩; have hx3 : w3.cell? ⟨G, O + k * 2 + 1, none⟩ = some (.int .u64 x) := (cell_only ho3 (a := ⟨G, O + k * 2 + 1, none⟩) hG3 (by simp)).trans hcx)
            | (go_at_call 15; refine (ringis_push_any _ b g n L x (hring.out.only ho3 (by simp) (by simp))).mono ?_; rintro e w4 ⟨rfl, hr4, ho4⟩))
          go_meet
          exact ⟨pushL n L x, hide hr4, hide (hrd3.only ho4 (by simp)), hide (((hon.out.trans (ho3.mono (by simp))).trans ho4))⟩
        by_cases hq1 : kd = 1
        case pos =>
          subst hq1
          go_wp2_with (first
            | (go_at_call 14; go_must (refine (ref_push_any _ [b, g] _ n L x hrd.out (by have := hring.out.lt; simp; omega) hLn h1 h2).mono ?_); rintro e w3 ⟨v', rfl, hrd3, ho3⟩; have hx3 : w3.cell? ⟨G, O + k * 2 + 1, none⟩ = some (.int .u64 x) := (cell_only ho3 (a := ⟨G, O + k * 2 + 1, none⟩) hG3 (by simp)).trans hcx)
            | (go_at_call 15; refine (ringis_push_any _ b g n L x (hring.out.only ho3 (by simp) (by simp))).mono ?_; rintro e w4 ⟨rfl, hr4, ho4⟩))
          go_meet
          exact ⟨pushL n L x, hide hr4, hide (hrd3.only ho4 (by simp)), hide (((hon.out.trans (ho3.mono (by simp))).trans ho4))⟩
        by_cases hq2 : kd = 2
        case pos =>
          subst hq2
          go_wp2_with (first
            | (go_at_call 14; go_must (refine (ref_push_any _ [b, g] _ n L x hrd.out (by have := hring.out.lt; simp; omega) hLn h1 h2).mono ?_); rintro e w3 ⟨v', rfl, hrd3, ho3⟩; have hx3 : w3.cell? ⟨G, O + k * 2 + 1, none⟩ = some (.int .u64 x) := (cell_only ho3 (a := ⟨G, O + k * 2 + 1, none⟩) hG3 (by simp)).trans hcx)
            | (go_at_call 15; refine (ringis_push_any _ b g n L x (hring.out.only ho3 (by simp) (by simp))).mono ?_; rintro e w4 ⟨rfl, hr4, ho4⟩))
          go_meet
          exact ⟨pushL n L x, hide hr4, hide (hrd3.only ho4 (by simp)), hide (((hon.out.trans (ho3.mono (by simp))).trans ho4))⟩
        by_cases hq3 : kd = 3
        case pos =>
          subst hq3
          rcases L with _ | ⟨y, L⟩
          case nil =>
            obtain ⟨A', c', rfl, hc', hm'⟩ := hrd.out.formi
            go_wp2_with (go_at_call 16; refine (ringis_pop_none _ b g n hring.out).mono ?_; rintro e w3 ⟨rfl, ho3⟩)
            go_meet
            exact ⟨[], hide (hring.out.only ho3 (by simp) (by simp)), hide (hrd.out.only ho3 (by simp)), hide (hon.out.trans (ho3.mono (by simp)))⟩
          case cons =>
            obtain ⟨g', o', c', rfl, hg', hl', hlc', hm', hcy, hrt⟩ := hrd.out.firsti
            unfold maxLen at hm'
            have HRT := hide hrt
            clear hrd hrt
            by_cases hc1 : c' = 1
            all_goals
              go_wp2_with (go_at_call 16; refine (ringis_pop _ b g n L y hring.out).mono ?_; rintro e w3 ⟨rfl, hr3, ho3⟩; have hcy3 : w3.cell? ⟨g', o', none⟩ = some (.int .u64 y) := (cell_only ho3 (a := ⟨g', o', none⟩) hl' hg').trans hcy)
              go_meet
              refine ⟨L, hide hr3, hide ?_, hide (hon.out.trans ho3)⟩
              have h := HRT.out.only ho3 (fun _ h => h)
              simpa [hc1] using h
        by_cases hq4 : kd = 4
        case pos =>
          subst hq4
          rcases List.eq_nil_or_concat L with rfl | ⟨L, y, rfl⟩
          case inl =>
            obtain ⟨A', c', rfl, hc', hm'⟩ := hrd.out.formi
            go_wp2_with (go_at_call 17; refine (ringis_back_none _ b g n hring.out).mono ?_; rintro e w3 ⟨rfl, ho3⟩)
            go_meet
            exact ⟨[], hide (hring.out.only ho3 (by simp) (by simp)), hide (hrd.out.only ho3 (by simp)), hide (hon.out.trans (ho3.mono (by simp)))⟩
          case inr =>
            rw [List.concat_eq_append] at hring hrd
            obtain ⟨g', o', c', rfl, hg', hl', hlc', hm', hcy, hrt⟩ := hrd.out.lasti
            unfold maxLen at hm'
            have HRT := hide hrt
            clear hrd hrt
            go_wp2_with (go_at_call 17; refine (ringis_back _ b g n L y hring.out).mono ?_; rintro e w3 ⟨rfl, hr3, ho3⟩; have hcy3 : w3.cell? ⟨g', o' + L.length, none⟩ = some (.int .u64 y) := (cell_only ho3 (a := ⟨g', o' + L.length, none⟩) hl' hg').trans hcy)
            go_meet
            exact ⟨L, hide hr3, hide (HRT.out.only ho3 (fun _ h => h)), hide (hon.out.trans ho3)⟩
        by_cases hq5 : kd = 5
        case pos =>
          subst hq5
          obtain ⟨A', c', rfl, hc', hm'⟩ := hrd.out.formi
          go_wp2_with (go_at_call 18; refine (ringis_clear _ b g n L hring.out).mono ?_; rintro e w3 ⟨rfl, hr3, ho3⟩)
          go_meet
          exact ⟨[], hide hr3, hide (Rd.nil _ _), hide (hon.out.trans ho3)⟩
        have q0 : (kd == 0) = false := beq_eq_false_iff_ne.2 hq0
        have q1 : (kd == 1) = false := beq_eq_false_iff_ne.2 hq1
        have q2 : (kd == 2) = false := beq_eq_false_iff_ne.2 hq2
        have q3 : (kd == 3) = false := beq_eq_false_iff_ne.2 hq3
        have q4 : (kd == 4) = false := beq_eq_false_iff_ne.2 hq4
        have q5 : (kd == 5) = false := beq_eq_false_iff_ne.2 hq5
        go_wp2_with fail
        go_meet
        exact ⟨L, hring, hrd, hon⟩
      case rest =>
        obtain ⟨L', hring', hrd', hon'⟩ := hcut
        obtain ⟨A', c', rfl, hc', hm'⟩ := hrd'.out.formi
        unfold maxLen at hm'
        go_wp2_with (first
          | (go_at_call 19; refine (ringis_len _ b g n L' hring'.out).mono ?_; rintro e w3 ⟨rfl, rfl⟩)
          | (go_at_call 20; refine (ringis_room _ b g n L' hring'.out).mono ?_; rintro e w3 ⟨rfl, rfl⟩))
        go_roundw
        case rel => exact ⟨k + 1, L', by omega, by go_num, hring', hrd', hon'⟩
        case measure => simp [intOf]; omega

theorem ring_acts_law (room : Int) (_ : (Lit.int .i64 room).wf = true) (v : Value) (zs : List (Int × Int)) {w : World} (hz : ActsRd w v zs) :
    Calls Try.prog 4 #[.int .i64 room, v] w fun e w' => e = .returned (.bool true) ∧ Only [] w w' := by
  rcases Nat.lt_or_ge 200 zs.length with hl | hl
  · exact acts_long room v zs w hz hl
  rcases Int.lt_or_le room 1 with h1 | h1
  · exact acts_bad room v zs w hz hl (.inl h1)
  rcases Int.lt_or_le 4096 room with h2 | h2
  · exact acts_bad room v zs w hz hl (.inr h2)
  obtain ⟨n, rfl⟩ := Int.eq_ofNat_of_zero_le (show 0 ≤ room by omega)
  exact acts_good n v zs w hz hl (by omega) (by omega)

theorem own_ringActs : ownKnob Try.prog.godebug = none := by kernel_rfl
theorem laidOut_ringActs : laidOutB Try.prog = true := by kernel_rfl

set_option maxRecDepth 100000 in
theorem lifted_ringActs (os : Os) (started : os.Started) (H : Type) (enc : TypeId × Value → H) :
    ReturnsInHanded {} Try.checked os 4 .any (Rows.ringActsSpec.pre6 enc Try.prog Try.f4 Rows.ringActsRow.domain false) (Rows.ringActsSpec.post enc Try.prog Try.f4 false true false false) := by
  refine returnsInHanded_of_change (C := Try.checked) own_ringActs started (by kernel_rfl) Try.func4
    (ChangeSpec.witness6 (enc := enc) (C := Try.checked) false ⟨#[], #[.int .i64 0, .slice none 0 0], []⟩ 8 (by kernel_rfl) (by kernel_rfl) (by kernel_rfl) (by kernel_rfl)) ?_
  intro W base args ds gs before hval0 hW hcnd _
  have hval : ∀ (j : Nat) t v, Try.f4.params[j]? = some t → args[j]? = some v → Value.okWide Try.prog W .any base t v := hval0
  have hW' := hW
  obtain ⟨p, q, hA0, hV, rfl, hfz, hnd⟩ := hW
  have hA : DataW.TrodAll enc Try.prog W 0 (fun _ => true) true Try.f4.params.toList args.toList ds p := hA0
  rw [Try.params4] at hA hval
  obtain ⟨v0, vs0, d0, ds0, p0, q0, hargs, rfl, rfl, h0, r0⟩ := trodAll_cons hA
  obtain ⟨v1, vs1, d1, ds1, p1, q1, rfl, rfl, rfl, h1, r1⟩ := trodAll_cons r0
  obtain ⟨rfl, rfl, rfl⟩ := trodAll_nil r1
  obtain rfl : args = #[v0, v1] := by cases args; simp_all
  obtain ⟨rfl, rfl⟩ := trodVars_none hV
  obtain ⟨a0, rfl, rfl, rfl, w0⟩ := open_int Try.underlying3 (hval 0 3 v0 rfl rfl) h0
  obtain ⟨a1, len1, cap1, rfl⟩ := okWide_slice Try.underlying29 (hval 1 29 v1 rfl rfl)
  have k1 := h1
  have lt1 : ∀ x ∈ p1, x.block < W.heap.size := by obtain ⟨m, hm⟩ := k1; exact DataW.trod_lt m _ _ _ hm
  obtain ⟨z1, w1⟩ := acts_of_trod h1
  clear hA0 hval0
  refine (ring_acts_law a0 w0 _ z1 w1).mono fun e W' ⟨he, hon⟩ => ?_
  subst he
  have bel : Below W.heap.size W W' := hon.below (fun x hx => by cases hx) (Nat.le_refl _)
  exact ⟨_, rfl, _, _, _, [], _, [], hW', trodAll_mk1 (shut_bool Try.underlying4 _), (trodAll_cons_mk (shut_int Try.underlying3 w0) (trodAll_cons_mk (Below.trod laidOut_ringActs (by kernel_rfl) (of_decide_eq_true (by kernel_rfl)) k1 bel lt1) trodAll_mk0)), rfl, bel.frame _, fun h => by cases h⟩

theorem over_ringActs : Rows.ringActsRow.holds Try.pinned (OpenSpec.ofChange Rows.ringActsSpec) :=
  OpenClaim.holds_of_wide 4 Try.f4 rfl rfl rfl rfl rfl rfl rfl ⟨rfl, rfl, rfl, rfl, rfl⟩ rfl rfl rfl rfl rfl (by kernel_rfl) Try.func4 (by kernel_rfl)
    (of_decide_eq_true (by kernel_rfl)) (by unfold Func.isWrapper; first | (rw [if_pos (by decide +kernel)]; kernel_rfl) | (rw [if_neg (by decide +kernel)]; exact ⟨rfl, rfl⟩))
    (fun os started H enc _ => lifted_ringActs os started H enc)

theorem ringActs_proved : Rows.RingActsSaid := over_ringActs
#print axioms ringActs_proved
end Go.Proofs.Ytokpdhcgclfmnaa

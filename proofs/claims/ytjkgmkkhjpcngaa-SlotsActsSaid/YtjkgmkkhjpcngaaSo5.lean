/-
  slots: Find, Newest; the reference's slots: by walking. Condition: the slots' block, and the pairs in it, are known whole.
-/
import Derived.Test.YtjkgmkkhjpcngaaSo4
namespace Go.Proofs.Ytjkgmkkhjpcngaa
open Go.RowKit Go.Deep

/-- A pair by its block, its number, when it was made. -/
abbrev PK := Nat × Int × Int
def blkO (o : Option PK) : Option Nat := o.map (·.1)
def OkO (w : World) (o : Option PK) : Prop := ∀ x, o = some x → PairK w x.1 x.2.1 x.2.2 ∧ 0 ≤ x.2.2 ∧ x.2.2 ≤ 1000000
def hit (o : Option PK) (lo : Int) : Bool := match o with | none => false | some x => decide (x.2.1 = lo)
def findV (p c n : Option PK) (lo : Int) : Option PK × Int := if hit c lo then (c, 2) else if hit n lo then (n, 3) else if hit p lo then (p, 1) else (none, 0)
theorem idx3 (x0 x1 x2 : Value) (w : World) : (Instr.index 109 (.agg #[x0, x1, x2]) (.int .i64 0)).run Try.prog w = .ok x0 w ∧ (Instr.index 109 (.agg #[x0, x1, x2]) (.int .i64 1)).run Try.prog w = .ok x1 w ∧
    (Instr.index 109 (.agg #[x0, x1, x2]) (.int .i64 2)).run Try.prog w = .ok x2 w := ⟨by kernel_rfl, by kernel_rfl, by kernel_rfl⟩
def FindPost (r : Option PK × Int) (w : World) (e : Ending) (w' : World) : Prop := e = .returned (.tuple #[pv (blkO r.1), .int .i64 r.2]) ∧ w = w'
theorem findpost {r : Option PK × Int} {o : Option PK} {k : Int} {w w' : World} (h : r = (o, k)) (hw : w = w') : FindPost r w (.returned (.tuple #[pv (blkO o), .int .i64 k])) w' := by subst h; exact ⟨rfl, hw⟩

set_option maxRecDepth 100000 in
set_option maxHeartbeats 3200000 in
theorem find_any (w : World) (S : Nat) (p c n : Option PK) (lo : Int) (h : SlotsIs w S (blkO p) (blkO c) (blkO n)) (hp : OkO w p) (hc : OkO w c) (hn : OkO w n) :
    Calls Try.prog 35 #[.pointer (some ⟨S, 0, none⟩), .int .u32 lo] w (FindPost (findV p c n lo) w) := by
  have k1 := h.cell 1
  have k2 := h.cell 2
  have k3 := h.cell 3
  simp at k1 k2 k3
  have HP := hide hp
  have HC := hide hc
  have HN := hide hn
  have i0 := fun x0 x1 x2 W => (idx3 x0 x1 x2 W).1
  have i1 := fun x0 x1 x2 W => (idx3 x0 x1 x2 W).2.1
  have i2 := fun x0 x1 x2 W => (idx3 x0 x1 x2 W).2.2
  clear h hp hc hn
  go_enter Try.func35, Try.ntmps35
  go_wp2_with fail
  go_loopw [12] (fun i wr => ∃ j : Nat, j ≤ 3 ∧ i = .int .i64 j ∧ Hid (0 < j → hit c lo = false) ∧ Hid (1 < j → hit n lo = false) ∧ Hid (2 < j → hit p lo = false) ∧ w = wr) (fun i _ => 3 - (intOf i).toNat)
  case atStart => exact ⟨0, by omega, rfl, hide (fun h => absurd h (by omega)), hide (fun h => absurd h (by omega)), hide (fun h => absurd h (by omega)), rfl⟩
  case round =>
    obtain ⟨j, hj, rfl, h1, h2, h3, rfl⟩ := hrel
    rcases (show j = 0 ∨ j = 1 ∨ j = 2 ∨ j = 3 by omega) with rfl | rfl | rfl | rfl
    · rcases Option.eq_none_or_eq_some c with hcc | ⟨x, hcc⟩
      ·
        rw [hcc] at k2
        simp only [blkO, Option.map_none, pv] at k2
        have HM := hide (show hit c lo = false by rw [hcc]; rfl)
        go_wp2_with fail
        go_roundw
        case rel => exact ⟨1, by omega, by go_num, hide (fun _ => HM.out), hide (fun h => absurd h (by omega)), hide (fun h => absurd h (by omega)), (by first | rfl | trivial)⟩
        case measure => simp [intOf]
      ·
        rw [hcc] at k2
        simp only [blkO, Option.map_some, pv] at k2
        have HL := hide (local_any w x.1 x.2.1 x.2.2 (HC.out x hcc).1)
        by_cases hlo : x.2.1 = lo
        · have HH := hide (show hit c lo = true by rw [hcc]; exact decide_eq_true hlo)
          have HR := hide (show findV p c n lo = (some x, 2) by unfold findV; rw [HH.out, hcc]; rfl)
          have e1 : (x.2.1 == lo) = true := by rw [beq_iff_eq]; exact hlo
          clear hlo
          go_wp2_with (go_at_call 52; refine HL.out.mono ?_; rintro e w1 ⟨rfl, rfl⟩)
          go_ret2
          exact findpost HR.out rfl
        · have HM := hide (show hit c lo = false by rw [hcc]; exact decide_eq_false hlo)
          have e1 : (x.2.1 == lo) = false := by rw [beq_eq_false_iff_ne]; exact hlo
          clear hlo
          go_wp2_with (go_at_call 52; refine HL.out.mono ?_; rintro e w1 ⟨rfl, rfl⟩)
          go_roundw
          case rel => exact ⟨1, by omega, by go_num, hide (fun _ => HM.out), hide (fun h => absurd h (by omega)), hide (fun h => absurd h (by omega)), (by first | rfl | trivial)⟩
          case measure => simp [intOf]
    · rcases Option.eq_none_or_eq_some n with hcc | ⟨x, hcc⟩
      ·
        rw [hcc] at k3
        simp only [blkO, Option.map_none, pv] at k3
        have HM := hide (show hit n lo = false by rw [hcc]; rfl)
        go_wp2_with fail
        go_roundw
        case rel => exact ⟨2, by omega, by go_num, hide (fun _ => h1.out (by omega)), hide (fun _ => HM.out), hide (fun h => absurd h (by omega)), (by first | rfl | trivial)⟩
        case measure => simp [intOf]
      ·
        rw [hcc] at k3
        simp only [blkO, Option.map_some, pv] at k3
        have HL := hide (local_any w x.1 x.2.1 x.2.2 (HN.out x hcc).1)
        by_cases hlo : x.2.1 = lo
        · have HH := hide (show hit n lo = true by rw [hcc]; exact decide_eq_true hlo)
          have HR := hide (show findV p c n lo = (some x, 3) by unfold findV; rw [(show hit c lo = false from h1.out (by omega)), HH.out, hcc]; rfl)
          have e1 : (x.2.1 == lo) = true := by rw [beq_iff_eq]; exact hlo
          clear hlo
          go_wp2_with (go_at_call 52; refine HL.out.mono ?_; rintro e w1 ⟨rfl, rfl⟩)
          go_ret2
          exact findpost HR.out rfl
        · have HM := hide (show hit n lo = false by rw [hcc]; exact decide_eq_false hlo)
          have e1 : (x.2.1 == lo) = false := by rw [beq_eq_false_iff_ne]; exact hlo
          clear hlo
          go_wp2_with (go_at_call 52; refine HL.out.mono ?_; rintro e w1 ⟨rfl, rfl⟩)
          go_roundw
          case rel => exact ⟨2, by omega, by go_num, hide (fun _ => h1.out (by omega)), hide (fun _ => HM.out), hide (fun h => absurd h (by omega)), (by first | rfl | trivial)⟩
          case measure => simp [intOf]
    · rcases Option.eq_none_or_eq_some p with hcc | ⟨x, hcc⟩
      ·
        rw [hcc] at k1
        simp only [blkO, Option.map_none, pv] at k1
        have HM := hide (show hit p lo = false by rw [hcc]; rfl)
        go_wp2_with fail
        go_roundw
        case rel => exact ⟨3, by omega, by go_num, hide (fun _ => h1.out (by omega)), hide (fun _ => h2.out (by omega)), hide (fun _ => HM.out), (by first | rfl | trivial)⟩
        case measure => simp [intOf]
      ·
        rw [hcc] at k1
        simp only [blkO, Option.map_some, pv] at k1
        have HL := hide (local_any w x.1 x.2.1 x.2.2 (HP.out x hcc).1)
        by_cases hlo : x.2.1 = lo
        · have HH := hide (show hit p lo = true by rw [hcc]; exact decide_eq_true hlo)
          have HR := hide (show findV p c n lo = (some x, 1) by unfold findV; rw [(show hit c lo = false from h1.out (by omega)), (show hit n lo = false from h2.out (by omega)), HH.out, hcc]; rfl)
          have e1 : (x.2.1 == lo) = true := by rw [beq_iff_eq]; exact hlo
          clear hlo
          go_wp2_with (go_at_call 52; refine HL.out.mono ?_; rintro e w1 ⟨rfl, rfl⟩)
          go_ret2
          exact findpost HR.out rfl
        · have HM := hide (show hit p lo = false by rw [hcc]; exact decide_eq_false hlo)
          have e1 : (x.2.1 == lo) = false := by rw [beq_eq_false_iff_ne]; exact hlo
          clear hlo
          go_wp2_with (go_at_call 52; refine HL.out.mono ?_; rintro e w1 ⟨rfl, rfl⟩)
          go_roundw
          case rel => exact ⟨3, by omega, by go_num, hide (fun _ => h1.out (by omega)), hide (fun _ => h2.out (by omega)), hide (fun _ => HM.out), (by first | rfl | trivial)⟩
          case measure => simp [intOf]
    · have HR := hide (show findV p c n lo = (none, 0) by unfold findV; rw [h1.out (by omega), h2.out (by omega), h3.out (by omega)]; rfl)
      go_wp2_with fail
      go_ret2
      exact findpost HR.out rfl

/-- The newest of what was seen so far and one more. -/
def newU (acc : Option Int) : Option PK → Option Int
  | none => acc
  | some x => match acc with
    | none => some x.2.2
    | some a => if a < x.2.2 then some x.2.2 else some a
def newV (p c n : Option PK) : Option Int := newU (newU (newU none p) c) n
def NewestPost (r : Option Int) (w : World) (e : Ending) (w' : World) : Prop := e = .returned (.tuple #[.int .i64 (r.getD 0), .bool r.isSome]) ∧ w = w'

set_option maxRecDepth 100000 in
set_option maxHeartbeats 6400000 in
theorem newest_any (w : World) (S : Nat) (p c n : Option PK) (h : SlotsIs w S (blkO p) (blkO c) (blkO n)) (hp : OkO w p) (hc : OkO w c) (hn : OkO w n) :
    Calls Try.prog 36 #[.pointer (some ⟨S, 0, none⟩)] w (NewestPost (newV p c n) w) := by
  have k0 := h.cell 0
  have k1 := h.cell 1
  have k2 := h.cell 2
  have k3 := h.cell 3
  simp at k0 k1 k2 k3
  have i0 := fun x0 x1 x2 x3 W => (idx4 x0 x1 x2 x3 W).1
  have HP := hide hp
  have HC := hide hc
  have HN := hide hn
  obtain ⟨V1, hV1⟩ : ∃ V, V = pv (blkO p) := ⟨_, rfl⟩
  obtain ⟨V2, hV2⟩ : ∃ V, V = pv (blkO c) := ⟨_, rfl⟩
  obtain ⟨V3, hV3⟩ : ∃ V, V = pv (blkO n) := ⟨_, rfl⟩
  rw [← hV1] at k1
  rw [← hV2] at k2
  rw [← hV3] at k3
  have HV1 := hide hV1
  have HV2 := hide hV2
  have HV3 := hide hV3
  clear h hp hc hn hV1 hV2 hV3
  go_enter Try.func36, Try.ntmps36
  go_wp2_with fail
  go_loopw [4, 5, 14] (fun nv fv i wr => ∃ (j : Nat) (acc : Option Int), j ≤ 4 ∧ i = .int .i64 j ∧ nv = .int .i64 (acc.getD 0) ∧ fv = .bool acc.isSome ∧ Hid (j ≤ 1 → acc = none) ∧ Hid (j = 2 → acc = newU none p) ∧ Hid (j = 3 → acc = newU (newU none p) c) ∧ Hid (j = 4 → acc = newV p c n) ∧ w = wr) (fun _ _ i _ => 4 - (intOf i).toNat)
  case atStart => exact ⟨0, none, by omega, rfl, rfl, rfl, hide (fun _ => rfl), hide (fun h => absurd h (by omega)), hide (fun h => absurd h (by omega)), hide (fun h => absurd h (by omega)), rfl⟩
  case round =>
    obtain ⟨j, acc, hj, rfl, rfl, rfl, h1, h2, h3, h4, rfl⟩ := hrel
    rcases (show j = 0 ∨ j = 1 ∨ j = 2 ∨ j = 3 ∨ j = 4 by omega) with rfl | rfl | rfl | rfl | rfl
    · obtain rfl := h1.out (by omega)
      go_wp2_with fail
      go_roundw
      case rel => exact ⟨1, none, by omega, by go_num, rfl, rfl, hide (fun _ => rfl), hide (fun h => absurd h (by omega)), hide (fun h => absurd h (by omega)), hide (fun h => absurd h (by omega)), (by first | rfl | trivial)⟩
      case measure => simp [intOf]
    · have HA := hide (h1.out (by omega))
      rcases Option.eq_none_or_eq_some p with ho | ⟨x, ho⟩
      ·
        have hix : ∀ W, (Instr.index 98 (.agg #[.pointer none, V1, V2, V3]) (.int .i64 1)).run Try.prog W = .ok (.pointer none) W := fun W => (idx4 (.pointer none) V1 V2 V3 W).2.1.trans (by rw [HV1.out, ho]; rfl)
        have HN0 := hide (show ∀ a, newU a p = a from fun a => by rw [ho]; rfl)
        clear ho
        cases acc
        all_goals
          go_wp2_with fail
          go_roundw
          case rel => exact ⟨2, _, by omega, by go_num, rfl, rfl, hide (fun h => absurd h (by omega)), hide (fun _ => by rw [HN0.out]; first | exact HA.out | done), hide (fun h => absurd h (by omega)), hide (fun h => absurd h (by omega)), (by first | rfl | trivial)⟩
          case measure => simp [intOf]
      ·
        have HM := hide (made_any w x.1 x.2.1 x.2.2 (HP.out x ho).1)
        have hix : ∀ W, (Instr.index 98 (.agg #[.pointer none, V1, V2, V3]) (.int .i64 1)).run Try.prog W = .ok (.pointer (some ⟨x.1, 0, none⟩)) W := fun W => (idx4 (.pointer none) V1 V2 V3 W).2.1.trans (by rw [HV1.out, ho]; rfl)
        have HS0 := hide (show ∀ a, newU a p = newU a (some x) from fun a => by rw [ho])
        clear ho
        cases acc with
        | none =>
          go_wp2_with (go_at_call 53; refine HM.out.mono ?_; rintro e w1 ⟨rfl, rfl⟩)
          go_roundw
          case rel => exact ⟨2, some x.2.2, by omega, by go_num, rfl, rfl, hide (fun h => absurd h (by omega)), hide (fun _ => by rw [HS0.out]; rfl), hide (fun h => absurd h (by omega)), hide (fun h => absurd h (by omega)), (by first | rfl | trivial)⟩
          case measure => simp [intOf]
        | some a => exact absurd HA.out (by simp)
    · have HA := hide (h2.out rfl)
      rcases Option.eq_none_or_eq_some c with ho | ⟨x, ho⟩
      ·
        have hix : ∀ W, (Instr.index 98 (.agg #[.pointer none, V1, V2, V3]) (.int .i64 2)).run Try.prog W = .ok (.pointer none) W := fun W => (idx4 (.pointer none) V1 V2 V3 W).2.2.1.trans (by rw [HV2.out, ho]; rfl)
        have HN0 := hide (show ∀ a, newU a c = a from fun a => by rw [ho]; rfl)
        clear ho
        cases acc
        all_goals
          go_wp2_with fail
          go_roundw
          case rel => exact ⟨3, _, by omega, by go_num, rfl, rfl, hide (fun h => absurd h (by omega)), hide (fun h => absurd h (by omega)), hide (fun _ => by rw [HN0.out]; first | exact HA.out | done), hide (fun h => absurd h (by omega)), (by first | rfl | trivial)⟩
          case measure => simp [intOf]
      ·
        have HM := hide (made_any w x.1 x.2.1 x.2.2 (HC.out x ho).1)
        have hix : ∀ W, (Instr.index 98 (.agg #[.pointer none, V1, V2, V3]) (.int .i64 2)).run Try.prog W = .ok (.pointer (some ⟨x.1, 0, none⟩)) W := fun W => (idx4 (.pointer none) V1 V2 V3 W).2.2.1.trans (by rw [HV2.out, ho]; rfl)
        have HS0 := hide (show ∀ a, newU a c = newU a (some x) from fun a => by rw [ho])
        clear ho
        cases acc with
        | none =>
          go_wp2_with (go_at_call 53; refine HM.out.mono ?_; rintro e w1 ⟨rfl, rfl⟩)
          go_roundw
          case rel => exact ⟨3, some x.2.2, by omega, by go_num, rfl, rfl, hide (fun h => absurd h (by omega)), hide (fun h => absurd h (by omega)), hide (fun _ => by rw [HS0.out, ← HA.out]; rfl), hide (fun h => absurd h (by omega)), (by first | rfl | trivial)⟩
          case measure => simp [intOf]
        | some a =>
          simp only [Option.getD_some, Option.isSome_some]
          by_cases hlt : a < x.2.2
          · have HLT := hide hlt
            go_wp2_with (go_at_call 53; refine HM.out.mono ?_; rintro e w1 ⟨rfl, rfl⟩)
            go_roundw
            case rel => exact ⟨3, some x.2.2, by omega, by go_num, rfl, rfl, hide (fun h => absurd h (by omega)), hide (fun h => absurd h (by omega)), hide (fun _ => by rw [HS0.out, ← HA.out]; show some x.2.2 = if a < x.2.2 then some x.2.2 else some a; rw [if_pos (by have := HLT.out; omega)]), hide (fun h => absurd h (by omega)), (by first | rfl | trivial)⟩
            case measure => simp [intOf]
          · have HLT := hide hlt
            go_wp2_with (go_at_call 53; refine HM.out.mono ?_; rintro e w1 ⟨rfl, rfl⟩)
            go_roundw
            case rel => exact ⟨3, some a, by omega, by go_num, rfl, rfl, hide (fun h => absurd h (by omega)), hide (fun h => absurd h (by omega)), hide (fun _ => by rw [HS0.out, ← HA.out]; show some a = if a < x.2.2 then some x.2.2 else some a; rw [if_neg (by have := HLT.out; omega)]), hide (fun h => absurd h (by omega)), (by first | rfl | trivial)⟩
            case measure => simp [intOf]
    · have HA := hide (h3.out rfl)
      rcases Option.eq_none_or_eq_some n with ho | ⟨x, ho⟩
      ·
        have hix : ∀ W, (Instr.index 98 (.agg #[.pointer none, V1, V2, V3]) (.int .i64 3)).run Try.prog W = .ok (.pointer none) W := fun W => (idx4 (.pointer none) V1 V2 V3 W).2.2.2.trans (by rw [HV3.out, ho]; rfl)
        have HN0 := hide (show ∀ a, newU a n = a from fun a => by rw [ho]; rfl)
        clear ho
        cases acc
        all_goals
          go_wp2_with fail
          go_roundw
          case rel => exact ⟨4, _, by omega, by go_num, rfl, rfl, hide (fun h => absurd h (by omega)), hide (fun h => absurd h (by omega)), hide (fun h => absurd h (by omega)), hide (fun _ => by unfold newV; rw [HN0.out]; exact HA.out), (by first | rfl | trivial)⟩
          case measure => simp [intOf]
      ·
        have HM := hide (made_any w x.1 x.2.1 x.2.2 (HN.out x ho).1)
        have hix : ∀ W, (Instr.index 98 (.agg #[.pointer none, V1, V2, V3]) (.int .i64 3)).run Try.prog W = .ok (.pointer (some ⟨x.1, 0, none⟩)) W := fun W => (idx4 (.pointer none) V1 V2 V3 W).2.2.2.trans (by rw [HV3.out, ho]; rfl)
        have HS0 := hide (show ∀ a, newU a n = newU a (some x) from fun a => by rw [ho])
        clear ho
        cases acc with
        | none =>
          go_wp2_with (go_at_call 53; refine HM.out.mono ?_; rintro e w1 ⟨rfl, rfl⟩)
          go_roundw
          case rel => exact ⟨4, some x.2.2, by omega, by go_num, rfl, rfl, hide (fun h => absurd h (by omega)), hide (fun h => absurd h (by omega)), hide (fun h => absurd h (by omega)), hide (fun _ => by unfold newV; rw [HS0.out, ← HA.out]; rfl), (by first | rfl | trivial)⟩
          case measure => simp [intOf]
        | some a =>
          simp only [Option.getD_some, Option.isSome_some]
          by_cases hlt : a < x.2.2
          · have HLT := hide hlt
            go_wp2_with (go_at_call 53; refine HM.out.mono ?_; rintro e w1 ⟨rfl, rfl⟩)
            go_roundw
            case rel => exact ⟨4, some x.2.2, by omega, by go_num, rfl, rfl, hide (fun h => absurd h (by omega)), hide (fun h => absurd h (by omega)), hide (fun h => absurd h (by omega)), hide (fun _ => by unfold newV; rw [HS0.out, ← HA.out]; show some x.2.2 = if a < x.2.2 then some x.2.2 else some a; rw [if_pos (by have := HLT.out; omega)]), (by first | rfl | trivial)⟩
            case measure => simp [intOf]
          · have HLT := hide hlt
            go_wp2_with (go_at_call 53; refine HM.out.mono ?_; rintro e w1 ⟨rfl, rfl⟩)
            go_roundw
            case rel => exact ⟨4, some a, by omega, by go_num, rfl, rfl, hide (fun h => absurd h (by omega)), hide (fun h => absurd h (by omega)), hide (fun h => absurd h (by omega)), hide (fun _ => by unfold newV; rw [HS0.out, ← HA.out]; show some a = if a < x.2.2 then some x.2.2 else some a; rw [if_neg (by have := HLT.out; omega)]), (by first | rfl | trivial)⟩
            case measure => simp [intOf]
    · have HA := hide (h4.out rfl)
      go_wp2_with fail
      go_ret2
      exact ⟨by rw [← HA.out]; rfl, rfl⟩

/-- The reference's: -1 is none. -/
def at3 (a b c k : Int) : Int := if k = 1 then a else if k = 2 then b else if k = 3 then c else -1
set_option maxHeartbeats 1600000 in
theorem refat_any (w : World) (a b c k : Int) : Calls Try.prog 33 #[.agg #[.int .i64 a, .int .i64 b, .int .i64 c], .int .i64 k] w fun e w' => e = .returned (.int .i64 (at3 a b c k)) ∧ Only [] w w' := by
  have HO := hide ((Only.refl [] w).alloc (.cells #[.int .i64 a, .int .i64 b, .int .i64 c] 56))
  by_cases h1 : k = 1
  · subst h1
    go_enter Try.func33, Try.ntmps33
    go_wp2
    go_ret
    exact ⟨rfl, HO.out⟩
  by_cases h2 : k = 2
  · subst h2
    go_enter Try.func33, Try.ntmps33
    go_wp2
    go_ret
    exact ⟨rfl, HO.out⟩
  by_cases h3 : k = 3
  · subst h3
    go_enter Try.func33, Try.ntmps33
    go_wp2
    go_ret
    exact ⟨rfl, HO.out⟩
  have HV := hide (show at3 a b c k = -1 by unfold at3; rw [if_neg h1, if_neg h2, if_neg h3])
  have e1 : (k == 1) = false := by rw [beq_eq_false_iff_ne]; exact h1
  have e2 : (k == 2) = false := by rw [beq_eq_false_iff_ne]; exact h2
  have e3 : (k == 3) = false := by rw [beq_eq_false_iff_ne]; exact h3
  clear h1 h2 h3
  go_enter Try.func33, Try.ntmps33
  go_wp2
  go_ret
  exact ⟨by rw [HV.out]; rfl, HO.out⟩
def RefPost (a b c : Int) (w : World) (e : Ending) (w' : World) : Prop := e = .returned (.agg #[.int .i64 a, .int .i64 b, .int .i64 c]) ∧ Only [] w w'
set_option maxHeartbeats 1600000 in
theorem refshift_any (w : World) (a b c x : Int) : Calls Try.prog 29 #[.agg #[.int .i64 a, .int .i64 b, .int .i64 c], .int .i64 x] w (RefPost b x (-1) w) := by
  have HF := hide (Blk.new (w.alloc (.cells #[.int .i64 a, .int .i64 b, .int .i64 c] 56)) 56 #[.int .i64 b, .int .i64 x, .int .i64 (-1)])
  simp only [World.size_alloc] at HF
  go_enter Try.func29, Try.ntmps29
  go_wp2
  refine bodyPost_ret (results_cell_row rfl _ _ (w.heap.size + 1) 56 _ (0, 0) _ rfl HF.out Try.underlying56 rfl (by kernel_rfl)) rfl ?_
  exact ⟨rfl, ((Only.refl [] w).alloc _).alloc _⟩
end Go.Proofs.Ytjkgmkkhjpcngaa

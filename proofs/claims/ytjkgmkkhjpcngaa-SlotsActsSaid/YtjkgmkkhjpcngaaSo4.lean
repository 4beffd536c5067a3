/-
  pairs' questions (Local, Made, Fresh), and slots: Begun, Confirm of another pair, Usable: by walking. Condition: the slots' block, and the pairs in it, are known whole.
-/
import Derived.Test.YtjkgmkkhjpcngaaSo3
namespace Go.Proofs.Ytjkgmkkhjpcngaa
open Go.RowKit Go.Deep

/-- A pair that the law made: its number, when it was made. -/
def PairK (w : World) (g : Nat) (lo made : Int) : Prop := ∃ c, PairIs w g c ⟨#[97, 49]⟩ ⟨#[97, 50]⟩ lo 9 true made 0
theorem PairK.only {S : List Nat} {w w' : World} {g : Nat} {lo made : Int} (h : PairK w g lo made) (ho : Only S w w') (hg : g ∉ S) : PairK w' g lo made := by
  obtain ⟨c, h⟩ := h
  exact ⟨c, h.only ho hg⟩
theorem PairK.at_ {w : World} {g : Nat} {lo made : Int} (h : PairK w g lo made) : PairAt w g := by
  obtain ⟨c, h⟩ := h
  exact PairIs.at_ h

theorem local_any (w : World) (g : Nat) (lo made : Int) (h : PairK w g lo made) : Calls Try.prog 52 #[.pointer (some ⟨g, 0, none⟩)] w fun e w' => e = .returned (.int .u32 lo) ∧ w = w' := by
  obtain ⟨c, h⟩ := h
  have k2 := Blk.cell h 2
  simp at k2
  clear h
  go_enter Try.func52, Try.ntmps52
  go_wp2
  go_ret
  exact ⟨rfl, rfl⟩
theorem made_any (w : World) (g : Nat) (lo made : Int) (h : PairK w g lo made) : Calls Try.prog 53 #[.pointer (some ⟨g, 0, none⟩)] w fun e w' => e = .returned (.int .i64 made) ∧ w = w' := by
  obtain ⟨c, h⟩ := h
  have k5 := Blk.cell h 5
  simp at k5
  clear h
  go_enter Try.func53, Try.ntmps53
  go_wp2
  go_ret
  exact ⟨rfl, rfl⟩
def ageV (now made : Int) : Int := if now - made < 0 then 0 else now - made
theorem age_any (w : World) (g : Nat) (lo made now : Int) (h : PairK w g lo made) (h0 : 0 ≤ now) (h1 : now ≤ 1125899906842624) (h2 : 0 ≤ made) (h3 : made ≤ 1000000) :
    Calls Try.prog 65 #[.pointer (some ⟨g, 0, none⟩), .int .i64 now] w fun e w' => e = .returned (.int .i64 (ageV now made)) ∧ w = w' := by
  obtain ⟨c, h⟩ := h
  have k5 := Blk.cell h 5
  simp at k5
  clear h
  by_cases hd : now - made < 0
  · have HV := hide (show ageV now made = 0 by unfold ageV; rw [if_pos hd])
    have hd2 : ¬ 0 < now - made := by omega
    go_enter Try.func65, Try.ntmps65
    go_wp2
    go_ret
    exact ⟨by rw [HV.out]; first | rfl | (congr 2; omega), rfl⟩
  · have HV := hide (show ageV now made = now - made by unfold ageV; rw [if_neg hd])
    have hd2 : 0 ≤ now - made := by omega
    go_enter Try.func65, Try.ntmps65
    go_wp2
    go_ret
    exact ⟨by rw [HV.out]; first | rfl | (congr 2; omega), rfl⟩
def oldV (now made : Int) : Bool := decide (180000 ≤ ageV now made)
theorem old_any (w : World) (g : Nat) (lo made now : Int) (h : PairK w g lo made) (h0 : 0 ≤ now) (h1 : now ≤ 1125899906842624) (h2 : 0 ≤ made) (h3 : made ≤ 1000000) :
    Calls Try.prog 62 #[.pointer (some ⟨g, 0, none⟩), .int .i64 now] w fun e w' => e = .returned (.bool (oldV now made)) ∧ w = w' := by
  have HA := hide (age_any w g lo made now h h0 h1 h2 h3)
  have HV := hide (show oldV now made = decide (180000 ≤ ageV now made) from rfl)
  generalize ageV now made = x at *
  clear h
  go_enter Try.func62, Try.ntmps62
  go_wp2_with (go_at_call 65; refine HA.out.mono ?_; rintro e w1 ⟨rfl, rfl⟩)
  go_ret
  exact ⟨by rw [HV.out]; rfl, rfl⟩
def freshV (now made : Int) : Bool := timeV now && !oldV now made
theorem fresh_none (now : Int) (w : World) : Calls Try.prog 54 #[.pointer none, .int .i64 now] w fun e w' => e = .returned (.bool false) ∧ w = w' := by
  go_enter Try.func54, Try.ntmps54
  go_wp2
  go_ret
  exact ⟨rfl, rfl⟩
theorem pfresh_any (w : World) (g : Nat) (lo made now : Int) (h : PairK w g lo made) (h2 : 0 ≤ made) (h3 : made ≤ 1000000) :
    Calls Try.prog 54 #[.pointer (some ⟨g, 0, none⟩), .int .i64 now] w fun e w' => e = .returned (.bool (freshV now made)) ∧ w = w' := by
  cases ht : timeV now with
  | false =>
    have HV := hide (show freshV now made = false by unfold freshV; rw [ht]; rfl)
    have HT := hide ht
    clear ht h
    go_enter Try.func54, Try.ntmps54
    go_wp2_with (go_at_call 60; refine (time_any _ _).mono ?_; rw [HT.out]; rintro e w1 ⟨rfl, rfl⟩)
    go_ret
    exact ⟨by rw [HV.out]; rfl, rfl⟩
  | true =>
    have hb : 0 ≤ now ∧ now ≤ 1125899906842624 := by
      unfold timeV at ht
      simpa using ht
    have HO := hide (old_any w g lo made now h hb.1 hb.2 h2 h3)
    have HV := hide (show freshV now made = !oldV now made by unfold freshV; rw [ht]; rfl)
    have HT := hide ht
    obtain ⟨c, h⟩ := h
    have k6 := Blk.cell h 6
    simp at k6
    clear ht h hb
    generalize oldV now made = o at *
    cases o
    all_goals
      go_enter Try.func54, Try.ntmps54
      go_wp2_with (first
        | (go_at_call 60; refine (time_any _ _).mono ?_; rw [HT.out]; rintro e w1 ⟨rfl, rfl⟩)
        | (go_at_call 62; refine HO.out.mono ?_; rintro e w1 ⟨rfl, rfl⟩))
      go_ret
      exact ⟨by rw [HV.out]; rfl, rfl⟩

/-- What Begun makes the previous one. -/
def begP (p c n : Option Nat) : Option Nat := if n = none then (if c = none then p else c) else n
set_option maxRecDepth 100000 in
set_option maxHeartbeats 3200000 in
theorem begun_any (w : World) (S : Nat) (p c n : Option Nat) (g : Nat) (h : SlotsIs w S p c n) :
    Calls Try.prog 25 #[.pointer (some ⟨S, 0, none⟩), .pointer (some ⟨g, 0, none⟩)] w (ShiftPost S (begP p c n) (some g) none (.int .i64 0) w) := by
  have k1 := h.cell 1
  have k2 := h.cell 2
  have k3 := h.cell 3
  have f := h.frozen
  simp at k1 k2 k3
  have HS := hide h
  have HO := hide (Only.refl [S] w)
  have al := al_
  have sl := sl_
  clear h
  cases n with
  | some m =>
    simp only [pv] at k3
    go_enter Try.func25, Try.ntmps25
    go_wp2
    go_region
    all_goals
      go_wp2
      go_region
      all_goals
        go_wp2
        go_ret
        exact shiftpost (((HS.out.set_ 1 _).set_ 2 _).set_ 3 _).drew.drew (((HO.out.setCell (p := ⟨S, 1, none⟩) (.inl (by simp)) _).setCell (p := ⟨S, 2, none⟩) (.inl (by simp)) _).setCell (p := ⟨S, 3, none⟩) (.inl (by simp)) _).drew.drew
  | none =>
    simp only [pv] at k3
    cases c with
    | none =>
      simp only [pv] at k2
      go_enter Try.func25, Try.ntmps25
      go_wp2
      go_region
      all_goals
        go_wp2
        go_ret
        exact shiftpost (((HS.out.drewN _).set_ 2 _).set_ 3 _) (((HO.out.drewN _).setCell (p := ⟨S, 2, none⟩) (.inl (by simp)) _).setCell (p := ⟨S, 3, none⟩) (.inl (by simp)) _)
    | some m =>
      simp only [pv] at k2
      go_enter Try.func25, Try.ntmps25
      go_wp2
      go_region
      all_goals
        go_wp2
        go_region
        all_goals
          go_wp2
          go_ret
          exact shiftpost (((HS.out.set_ 1 _).set_ 2 _).set_ 3 _).drew.drew (((HO.out.setCell (p := ⟨S, 1, none⟩) (.inl (by simp)) _).setCell (p := ⟨S, 2, none⟩) (.inl (by simp)) _).setCell (p := ⟨S, 3, none⟩) (.inl (by simp)) _).drew.drew

theorem run_neq_none {P : Program} (w : World) {tp te : TypeId} {b : Addr} (hp : P.underlying tp = some (.pointer te)) : (binOp .neq tp (.pointer none) (.pointer (some b))).run P w = .ok (.bool true) w := by
  have h : ∀ d : Nat, (Op.equalIn (d + 1) tp (.pointer none) (.pointer (some b))).run P w = .ok false w := fun d => by
    simp [Op.equalIn, run_underlying hp]
  simp only [binOp]
  simp [Op.equal, Op.maxDepth, h 9999]
theorem neq_none (W : World) (g : Nat) : (binOp .neq 61 (.pointer none) (.pointer (some ⟨g, 0, none⟩))).run Try.prog W = .ok (.bool true) W := run_neq_none W Try.underlying61

set_option maxRecDepth 100000 in
theorem confirm_no (w : World) (S : Nat) (p c n : Option Nat) (g : Nat) (h : SlotsIs w S p c n) (hn : n ≠ some g) (hg : PairAt w g) (hp : ∀ m, n = some m → PairAt w m) :
    Calls Try.prog 28 #[.pointer (some ⟨S, 0, none⟩), .pointer (some ⟨g, 0, none⟩)] w fun e w' => e = .returned (.bool false) ∧ w = w' := by
  have k3 := h.cell 3
  simp at k3
  clear h
  cases n with
  | none =>
    simp only [pv] at k3
    have hnn := fun W => neq_none W g
    go_enter Try.func28, Try.ntmps28
    go_wp2
    go_ret
    exact ⟨rfl, rfl⟩
  | some m =>
    simp only [pv] at k3
    have hno := neq_other (W := w) (g := m) (m := g) (fun e => hn (by rw [e])) (hp m rfl) hg
    clear hn hg hp
    go_enter Try.func28, Try.ntmps28
    go_wp2
    go_ret
    exact ⟨rfl, rfl⟩

theorem usable_none (w : World) (S : Nat) (p n : Option Nat) (now : Int) (h : SlotsIs w S p none n) : Calls Try.prog 37 #[.pointer (some ⟨S, 0, none⟩), .int .i64 now] w fun e w' => e = .returned (.pointer none) ∧ w = w' := by
  have k2 := h.cell 2
  simp [pv] at k2
  clear h
  go_enter Try.func37, Try.ntmps37
  go_wp2_with (go_at_call 54; refine (fresh_none _ _).mono ?_; rintro e w1 ⟨rfl, rfl⟩)
  go_ret
  exact ⟨rfl, rfl⟩
theorem usable_some (w : World) (S g : Nat) (p n : Option Nat) (lo made now : Int) (h : SlotsIs w S p (some g) n) (hk : PairK w g lo made) (h2 : 0 ≤ made) (h3 : made ≤ 1000000) :
    Calls Try.prog 37 #[.pointer (some ⟨S, 0, none⟩), .int .i64 now] w fun e w' => e = .returned (.pointer (if freshV now made then some ⟨g, 0, none⟩ else none)) ∧ w = w' := by
  have k2 := h.cell 2
  simp [pv] at k2
  have HF := hide (pfresh_any w g lo made now hk h2 h3)
  clear h hk
  generalize freshV now made = f at *
  cases f
  all_goals
    go_enter Try.func37, Try.ntmps37
    go_wp2_with (go_at_call 54; refine HF.out.mono ?_; rintro e w1 ⟨rfl, rfl⟩)
    go_ret
    exact ⟨rfl, rfl⟩
end Go.Proofs.Ytjkgmkkhjpcngaa

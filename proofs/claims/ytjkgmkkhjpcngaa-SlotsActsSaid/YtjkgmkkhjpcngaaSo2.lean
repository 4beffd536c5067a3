/-
  slots: At, Confirm, Erase; the law's fresh and awake, by walking. Condition: the slots' block, and the pairs that are compared, are known whole.
-/
import Derived.Test.YtjkgmkkhjpcngaaSo1
namespace Go.Proofs.Ytjkgmkkhjpcngaa
open Go.RowKit Go.Deep

def atO (p c n : Option Nat) (k : Int) : Option Nat := if k = 1 then p else if k = 2 then c else if k = 3 then n else none
set_option maxHeartbeats 1600000 in
theorem at_any (w : World) (S : Nat) (p c n : Option Nat) (k : Int) (h : SlotsIs w S p c n) :
    Calls Try.prog 32 #[.pointer (some ⟨S, 0, none⟩), .int .i64 k] w fun e w' => e = .returned (pv (atO p c n k)) ∧ w = w' := by
  have k1 := h.cell 1
  have k2 := h.cell 2
  have k3 := h.cell 3
  simp at k1 k2 k3
  clear h
  by_cases h1 : k < 1
  · have HV := hide (show atO p c n k = none by unfold atO; rw [if_neg (by omega), if_neg (by omega), if_neg (by omega)])
    go_enter Try.func32, Try.ntmps32
    go_wp2
    go_ret
    exact ⟨(by rw [HV.out]; rfl), rfl⟩
  by_cases h3 : 3 < k
  · have HV := hide (show atO p c n k = none by unfold atO; rw [if_neg (by omega), if_neg (by omega), if_neg (by omega)])
    go_enter Try.func32, Try.ntmps32
    go_wp2
    go_ret
    exact ⟨(by rw [HV.out]; rfl), rfl⟩
  have hk : k = 1 ∨ k = 2 ∨ k = 3 := by omega
  rcases hk with rfl | rfl | rfl
  all_goals
    go_enter Try.func32, Try.ntmps32
    go_wp2
    go_ret
    exact ⟨rfl, rfl⟩

theorem al_ : ∀ (W : World) (n : Nat) (o : Obj), (W.drewN n).alloc o = (W.alloc o).drewN n := fun _ _ _ => rfl
theorem sl_ : ∀ (W : World) (n : Nat) (a : Addr) (v : Value), (W.drewN n).setCell a v = (W.setCell a v).drewN n := fun _ _ _ _ => rfl

/-- Behind Confirm, or Begun: p' the previous one. -/
def ShiftPost (S : Nat) (p c n : Option Nat) (v : Value) (w : World) (e : Ending) (w' : World) : Prop := e = .returned v ∧ SlotsIs w' S p c n ∧ Only [S] w w'
theorem shiftpost {S : Nat} {p c n : Option Nat} {v : Value} {w w' : World} (h : SlotsIs w' S p c n) (ho : Only [S] w w') : ShiftPost S p c n v w (.returned v) w' := ⟨rfl, h, ho⟩
set_option maxRecDepth 100000 in
set_option maxHeartbeats 3200000 in
theorem confirm_yes (w : World) (S : Nat) (p c : Option Nat) (g : Nat) (h : SlotsIs w S p c (some g)) :
    Calls Try.prog 28 #[.pointer (some ⟨S, 0, none⟩), .pointer (some ⟨g, 0, none⟩)] w (ShiftPost S (if c = none then p else c) (some g) none (.bool true) w) := by
  have k1 := h.cell 1
  have k2 := h.cell 2
  have k3 := h.cell 3
  have f := h.frozen
  simp [pv] at k3
  simp at k1 k2
  have HS := hide h
  have HO := hide (Only.refl [S] w)
  have al := al_
  have sl := sl_
  have hns := fun W => neq_same W g
  clear h
  cases c with
  | none =>
    simp only [pv] at k2
    go_enter Try.func28, Try.ntmps28
    go_wp2
    go_region
    all_goals
      go_wp2
      go_ret
      exact shiftpost (((HS.out.drewN _).set_ 2 _).set_ 3 _) (((HO.out.drewN _).setCell (p := ⟨S, 2, none⟩) (.inl (by simp)) _).setCell (p := ⟨S, 3, none⟩) (.inl (by simp)) _)
  | some m =>
    simp only [pv] at k2
    go_enter Try.func28, Try.ntmps28
    go_wp2
    go_region
    all_goals
      go_wp2
      go_region
      all_goals
        go_wp2
        go_ret
        exact shiftpost (((HS.out.set_ 1 _).set_ 2 _).set_ 3 _).drew.drew (((HO.out.setCell (p := ⟨S, 1, none⟩) (.inl (by simp)) _).setCell (p := ⟨S, 2, none⟩) (.inl (by simp)) _).setCell (p := ⟨S, 3, none⟩) (.inl (by simp)) _).drew.drew

theorem a1_ok : kindT ⟨#[97, 49]⟩ ≠ 0 := by rw [kind_a1]; decide
theorem a2_ok : kindT ⟨#[97, 50]⟩ ≠ 0 := by rw [kind_a2]; decide
def FreshPost (lo made : Int) (w : World) (e : Ending) (w' : World) : Prop :=
  ∃ g c, e = .returned (.pointer (some ⟨g, 0, none⟩)) ∧ w.heap.size ≤ g ∧ PairIs w' g c ⟨#[97, 49]⟩ ⟨#[97, 50]⟩ lo 9 true made 0 ∧ Only [] w w'
theorem freshpost {lo made : Int} {w w' : World} {g c : Nat} (h1 : w.heap.size ≤ g) (h2 : PairIs w' g c ⟨#[97, 49]⟩ ⟨#[97, 50]⟩ lo 9 true made 0) (h3 : Only [] w w') : FreshPost lo made w (.returned (.pointer (some ⟨g, 0, none⟩))) w' := ⟨g, c, rfl, h1, h2, h3⟩
set_option maxRecDepth 100000 in
set_option maxHeartbeats 3200000 in
theorem fresh_any (w : World) (lo made : Int) (h0 : 0 ≤ made) (h1 : made ≤ 1125899906842624) :
    Calls Try.prog 24 #[.int .u32 lo, .int .i64 made] w (FreshPost lo made w) := by
  have HN := hide (pair_new w ⟨#[97, 49]⟩ ⟨#[97, 50]⟩ lo 9 true made (by decide) (by decide) a1_ok a2_ok h0 h1)
  go_enter Try.func24, Try.ntmps24
  go_wp2_with (go_at_call 51; refine HN.out.mono ?_; rintro e w1 ⟨g, c, rfl, hg, _, _, hp, _, ho⟩; have HP := hide hp; have HO := hide ho; have HG := hide hg; clear hp ho hg)
  go_ret
  exact freshpost HG.out HP.out HO.out

set_option maxRecDepth 100000 in
set_option maxHeartbeats 3200000 in
theorem awake13 (w : World) : Calls Try.prog 22 #[] w fun e w' => e = .returned (.bool true) ∧ Only [] w w' := by
  go_enter Try.func22, Try.ntmps22
  go_wp2_with fail
  refine (slots_new w).mono ?_
  rintro e w1 ⟨S, rfl, hS, hs, ho⟩
  have HO := hide ho
  clear ho
  go_wp2_with fail
  refine (fresh_any _ 1 0 (by omega) (by omega)).mono ?_
  rintro e w2 ⟨a, ca, rfl, ha, hpa, ho2⟩
  have HO2 := hide (HO.out.trans ho2)
  have HS2 := hide (Blk.only hs ho2 (by simp))
  have HPA := hide hpa
  have hSa : S < w1.heap.size := Blk.lt hs
  clear ho2 hs hpa
  go_wp2_with fail
  refine (fresh_any _ 2 0 (by omega) (by omega)).mono ?_
  rintro e w3 ⟨b, cb, rfl, hb, hpb, ho3⟩
  have HO3 := hide (HO2.out.trans ho3)
  have HS3 := hide (Blk.only HS2.out ho3 (by simp))
  have HPA3 := hide (HPA.out.only ho3 (by simp))
  have HPB := hide hpb
  have hab : a < b := by have := Blk.lt HPA.out; omega
  clear ho3 hpb
  have hSw : w.heap.size ≤ S := hS
  go_wp2_with fail
  refine (heard_any _ S none none none a HS3.out).mono ?_
  rintro e w4 ⟨rfl, hs4, ho4⟩
  have HS4 := hide hs4
  have HO4 := hide (HO3.out.mono (S' := [S]) (by simp) |>.trans ho4)
  clear hs4 ho4
  go_wp2_with fail
  have h5 := confirm_yes _ S none none a HS4.out
  rw [if_pos rfl] at h5
  refine h5.mono ?_
  rintro e w5 ⟨rfl, hs5, ho5⟩
  have HS5 := hide hs5
  have HO5 := hide (HO4.out.trans ho5)
  clear hs5 ho5 h5
  go_wp2_with fail
  refine (heard_any _ S none (some a) none b HS5.out).mono ?_
  rintro e w6 ⟨rfl, hs6, ho6⟩
  have HS6 := hide hs6
  have HO6 := hide (HO5.out.trans ho6)
  clear hs6 ho6
  have h7 := confirm_yes _ S none (some a) b HS6.out
  rw [if_neg (by simp)] at h7
  have H7 := hide h7
  clear h7
  have ea := fun W => eql_same W a
  have eb := fun W => eql_same W b
  go_wp2_with fail
  refine H7.out.mono ?_
  rintro e w7 ⟨rfl, hs7, ho7⟩
  have HO7 := hide (HO6.out.trans ho7)
  have HA1 := hide (at_any _ S _ _ _ 1 hs7)
  have HA2 := hide (at_any _ S _ _ _ 2 hs7)
  have HA3 := hide (at_any _ S _ _ _ 3 hs7)
  clear hs7 ho7
  go_wp2_with fail
  refine HA1.out.mono ?_
  rintro e w' ⟨rfl, rfl⟩
  simp only [atO, if_pos, pv]
  go_wp2_with fail
  refine HA2.out.mono ?_
  rintro e w' ⟨rfl, rfl⟩
  simp [atO, pv]
  go_wp2_with fail
  refine HA3.out.mono ?_
  rintro e w' ⟨rfl, rfl⟩
  simp [atO, pv]
  go_wp2_with fail
  go_ret
  exact ⟨rfl, HO7.out.mono (by simp [hSw])⟩
end Go.Proofs.Ytjkgmkkhjpcngaa

/-
  Contracts of packet's Trim and Data, by walking.
-/
import Derived.Test.YtgplcojkhacniaaPk
namespace Go.Proofs.Ytgplcojkhacniaa
open Go.RowKit Go.Deep

/-- 's[i:j]' -/
theorem Rd.cut {w : World} {N : List Nat} {xs : List Value} {g o n cap : Nat} (h : Rd w N (.slice (some ⟨g, o, none⟩) n cap) xs) (i j c : Nat) (A : Option Addr) (hij : i ≤ j) (hj : j ≤ n) (hA : i < j → A = some ⟨g, o + i, none⟩) (hc : j - i ≤ c) (hm : c ≤ maxLen) :
    Rd w N (.slice A (j - i) c) ((xs.take j).drop i) := by
  obtain ⟨h1, h2, h3, h4⟩ := h.at_
  have hlen : ((xs.take j).drop i).length = j - i := by simp; omega
  refine ⟨A, c, by rw [hlen], by rw [hlen]; exact hc, hm, ?_⟩
  by_cases hx : (xs.take j).drop i = []
  · exact .inl hx
  · have hp := List.length_pos_iff.2 hx
    rw [hlen] at hp
    obtain ⟨g', o', hA', hg, hl, _⟩ := h4 i (xs[i]'(by omega)) (List.getElem?_eq_getElem (by omega))
    injection hA' with hA'
    injection hA' with e1 e2
    subst e1 e2
    refine .inr ⟨g, o + i, hA (by omega), hg, hl, fun k y hy => ?_⟩
    rw [List.getElem?_drop, List.getElem?_take] at hy
    split at hy
    · obtain ⟨g', o', hA', _, _, hc'⟩ := h4 (i + k) y hy
      injection hA' with hA'
      injection hA' with e1 e2
      subst e1 e2
      rw [Nat.add_assoc]
      exact hc'
    · cases hy

theorem ints_take (k : IntKind) (xs : List Int) (n : Nat) : (ints k xs).take n = ints k (xs.take n) := by simp [ints]
theorem ints_drop (k : IntKind) (xs : List Int) (n : Nat) : (ints k xs).drop n = ints k (xs.drop n) := by simp [ints]
theorem byts_take (l : List UInt8) (n : Nat) : (byts l).take n = byts (l.take n) := by simp [byts]
theorem byts_drop (l : List UInt8) (n : Nat) : (byts l).drop n = byts (l.drop n) := by simp [byts]

theorem bnd_ok (l : List UInt8) (h : (bndV l).2.2 = 0) : 20 ≤ (bndV l).1 ∧ (bndV l).1 ≤ (bndV l).2.1 ∧ (bndV l).2.1 ≤ l.length ∧ (bndV l).2.1 ≤ 65575 ∧ 0 < l.length ∧
    ((bt l 0 / 16 = 4 ∧ 20 ≤ l.length) ∨ (bt l 0 / 16 = 6 ∧ 40 ≤ l.length ∧ (bndV l).1 = 40)) := by
  have b2 := bt_lt l 2
  have b3 := bt_lt l 3
  have b4 := bt_lt l 4
  have b5 := bt_lt l 5
  unfold bndV at h ⊢
  repeat' split at h
  all_goals first | (simp at h; done) | skip
  · rename_i h0 h4 h20 hx hy
    rw [if_neg h0, if_pos h4, if_neg h20, if_neg hx, if_neg hy]
    simp only
    omega
  · rename_i h0 h4 h6 h40 hy
    rw [if_neg h0, if_neg h4, if_pos h6, if_neg h40, if_neg hy]
    simp only
    refine ⟨by omega, by omega, by omega, by omega, by omega, .inr ⟨h6, by omega, trivial⟩⟩

set_option maxRecDepth 100000 in
theorem trim_any (w : World) (N : List Nat) (v : Value) (l : List UInt8) (hv : Rd w N v (ints .u8 (byts l))) :
    Calls Try.prog 7 #[v] w fun e w' => ∃ v', e = .returned (.tuple #[v', .int .i64 (bndV l).2.2]) ∧
      OwnB w' w.heap.size v' (byts (if (bndV l).2.2 = 0 then l.take (bndV l).2.1 else [])) ∧ Only [] w w' := by
  by_cases hb : (bndV l).2.2 = 0
  case neg =>
    have hq : ((((bndV l).2.2 : Nat) : Int) == 0) = false := by rw [beq_eq_false_iff_ne]; omega
    rw [if_neg hb]
    have hB := bounds_any w N v l hv
    clear hb hv
    generalize (bndV l).2.2 = c at *
    generalize (bndV l).2.1 = b at *
    generalize (bndV l).1 = a at *
    go_enter Try.func7, Try.ntmps7
    go_wp2_with (go_at_call 15; refine hB.mono ?_; rintro e w1 ⟨rfl, k, rfl⟩)
    go_ret2
    exact ⟨_, rfl, OwnB.nil _ _, (Only.refl _ _).drewN _⟩
  have hq : ((((bndV l).2.2 : Nat) : Int) == 0) = true := by rw [hb]; rfl
  rw [if_pos hb]
  obtain ⟨q1, q2, q3, q4, q5, _⟩ := bnd_ok l hb
  have hB := bounds_any w N v l hv
  obtain ⟨A, cap, rfl, hc, hm⟩ := hv.formb
  obtain ⟨g, o, rfl, hg, _⟩ := rd_some hv q5
  have HR := hide (hv.take (bndV l).2.1 q3)
  rw [ints_take, byts_take] at HR
  have HL := hide (show (byts (l.take (bndV l).2.1)).length ≤ 140737488351232 by rw [byts_length, List.length_take]; omega)
  have HM := hide hm
  rw [hb] at hq hB ⊢
  clear hm hv hb q5
  generalize byts (l.take (bndV l).2.1) = xs at *
  generalize (bndV l).2.1 = b at *
  generalize (bndV l).1 = a at *
  generalize l.length = n at *
  have q3' : (b : Int) ≤ n := by omega
  have hc' : (n : Int) ≤ cap := by omega
  go_enter Try.func7, Try.ntmps7
  go_wp2_with (first
    | (go_at_call 15; refine hB.mono ?_; rintro e w1 ⟨rfl, k, rfl⟩)
    | (go_at_call 16; refine (clone_any (w.drewN k) N _ xs (HR.out.only ((Only.refl [] w).drewN k) (by simp)) HL.out).mono ?_; rintro e w1 ⟨v1, rfl, how, ho⟩; have HOW := hide how; have HO := hide (((Only.refl [] w).drewN k).trans ho); clear how ho))
  go_ret2
  exact ⟨_, rfl, HOW.out, HO.out⟩

set_option maxRecDepth 100000 in
theorem data_any (w : World) (N : List Nat) (v : Value) (l : List UInt8) (hv : Rd w N v (ints .u8 (byts l))) :
    Calls Try.prog 8 #[v] w fun e w' => ∃ v', e = .returned (.tuple #[v', .int .i64 (bndV l).2.2]) ∧
      OwnB w' w.heap.size v' (byts (if (bndV l).2.2 = 0 then (l.take (bndV l).2.1).drop (bndV l).1 else [])) ∧ Only [] w w' := by
  by_cases hb : (bndV l).2.2 = 0
  case neg =>
    have hq : ((((bndV l).2.2 : Nat) : Int) == 0) = false := by rw [beq_eq_false_iff_ne]; omega
    rw [if_neg hb]
    have hB := bounds_any w N v l hv
    clear hb hv
    generalize (bndV l).2.2 = c at *
    generalize (bndV l).2.1 = b at *
    generalize (bndV l).1 = a at *
    go_enter Try.func8, Try.ntmps8
    go_wp2_with (go_at_call 15; refine hB.mono ?_; rintro e w1 ⟨rfl, k, rfl⟩)
    go_ret2
    exact ⟨_, rfl, OwnB.nil _ _, (Only.refl _ _).drewN _⟩
  have hq : ((((bndV l).2.2 : Nat) : Int) == 0) = true := by rw [hb]; rfl
  rw [if_pos hb]
  obtain ⟨q1, q2, q3, q4, q5, _⟩ := bnd_ok l hb
  have hB := bounds_any w N v l hv
  obtain ⟨A, cap, rfl, hc, hm⟩ := hv.formb
  obtain ⟨g, o, rfl, hg, _⟩ := rd_some hv q5
  have HR := fun c A hA h1 h2 => hv.cut (bndV l).1 (bndV l).2.1 c A q2 q3 hA h1 h2
  rw [ints_take, byts_take, ints_drop, byts_drop] at HR
  have HL := hide (show (byts ((l.take (bndV l).2.1).drop (bndV l).1)).length ≤ 140737488351232 by rw [byts_length, List.length_drop, List.length_take]; omega)
  have HM := hide hm
  rw [hb] at hq hB ⊢
  clear hm hv hb q5
  generalize byts ((l.take (bndV l).2.1).drop (bndV l).1) = xs at *
  generalize (bndV l).2.1 = b at *
  generalize (bndV l).1 = a at *
  generalize l.length = n at *
  have q2' : (a : Int) ≤ b := by omega
  have q3' : (b : Int) ≤ n := by omega
  have hc' : (n : Int) ≤ cap := by omega
  have HR := hide HR
  go_enter Try.func8, Try.ntmps8
  go_wp2_with (first
    | (go_at_call 15; refine hB.mono ?_; rintro e w1 ⟨rfl, k, rfl⟩)
    | (go_at_call 16; refine (clone_any (w.drewN k) N _ xs ((HR.out _ _ (by first | exact fun _ => rfl | (intro h; exfalso; omega)) (by omega) (by have := HM.out; omega)).only ((Only.refl [] w).drewN k) (by simp)) HL.out).mono ?_; rintro e w1 ⟨v1, rfl, how, ho⟩; have HOW := hide how; have HO := hide (((Only.refl [] w).drewN k).trans ho); clear how ho))
  all_goals
    go_ret2
    exact ⟨_, rfl, HOW.out, HO.out⟩
end Go.Proofs.Ytgplcojkhacniaa

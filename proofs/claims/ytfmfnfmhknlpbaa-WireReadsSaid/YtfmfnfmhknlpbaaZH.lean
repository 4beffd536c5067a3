/-
  wire.Print and wire.Terms of any message: by walking. No condition but the sizes.
  What is read is a message that is right, and is printed as it was (plain). No condition.
-/
import Derived.Test.YtfmfnfmhknlpbaaWl1Q
import Derived.Test.YtfmfnfmhknlpbaaWl2Q
import Derived.Test.YtfmfnfmhknlpbaaWl3Q
import Derived.Test.YtfmfnfmhknlpbaaWl4Q
import Derived.Test.YtfmfnfmhknlpbaaWt1Q
import Derived.Test.YtfmfnfmhknlpbaaWt2Q
import Derived.Test.YtfmfnfmhknlpbaaWt3Q
import Derived.Test.YtfmfnfmhknlpbaaWt4Q
import Derived.Test.YtfmfnfmhknlpbaaZE
namespace Go.Proofs.Ytfmfnfmhknlpbaa
open Go.RowKit Go.Deep

theorem right_none {m : Mg} (h : ¬ (1 ≤ m.k ∧ m.k ≤ 4)) : rightM m = false := by unfold rightM; rw [decide_eq_false h]; rfl
set_option maxRecDepth 100000 in
set_option maxHeartbeats 3200000 in
theorem proper_none (w : World) (m : Mg) (h : ¬ (1 ≤ m.k ∧ m.k ≤ 4)) : Calls Try.prog 33 #[.agg m.cells] w fun e w' => e = .returned (.tuple #[.slice none 0 0, .bool false]) ∧ Only [] w w' := by
  have HMB := hide (Blk.new w 27 m.cells)
  have HO := hide ((Only.refl [] w).alloc (.cells m.cells 27))
  have a1 : (m.k == 1) = false := by rw [beq_eq_false_iff_ne]; omega
  have a2 : (m.k == 2) = false := by rw [beq_eq_false_iff_ne]; omega
  have a3 : (m.k == 3) = false := by rw [beq_eq_false_iff_ne]; omega
  have a4 : (m.k == 4) = false := by rw [beq_eq_false_iff_ne]; omega
  have HRW := hide (fun W => row_none m.k a1 a2 a3 a4 W)
  obtain ⟨k, s, r, c, x4, x5, x6, x7, x8, x9, x10, x11, x12⟩ := m
  unfold Mg.cells at HMB HO ⊢
  simp only at HMB HO HRW ⊢
  have m0 := HMB.out.cell 0
  simp at m0
  clear h a1 a2 a3 a4
  go_enter Try.func33, Try.ntmps33
  go_wp2_with (go_at_call 28; refine (HRW.out _).mono ?_; rintro e w1 ⟨rfl, ho⟩; replace HO := hide (HO.out.trans ho); clear ho)
  go_ret2
  exact ⟨rfl, HO.out⟩
set_option maxRecDepth 100000 in
set_option maxHeartbeats 3200000 in
theorem Print_none (w : World) (m : Mg) (h : ¬ (1 ≤ m.k ∧ m.k ≤ 4)) : Calls Try.prog 9 #[.agg m.cells] w (PrintPost m w) := by
  have HMB := hide (Blk.new w 27 m.cells)
  have HO := hide ((Only.refl [] w).alloc (.cells m.cells 27))
  have HP := hide (fun W => proper_none W m h)
  have HV := hide (right_none h)
  obtain ⟨k, s, r, c, x4, x5, x6, x7, x8, x9, x10, x11, x12⟩ := m
  unfold Mg.cells at HMB HO HP ⊢
  simp only at HMB HO HP ⊢
  have m0 := HMB.out.cell 0; have m1 := HMB.out.cell 1; have m2 := HMB.out.cell 2; have m3 := HMB.out.cell 3; have m4 := HMB.out.cell 4; have m5 := HMB.out.cell 5; have m6 := HMB.out.cell 6; have m7 := HMB.out.cell 7; have m8 := HMB.out.cell 8; have m9 := HMB.out.cell 9; have m10 := HMB.out.cell 10; have m11 := HMB.out.cell 11; have m12 := HMB.out.cell 12; simp at m0 m1 m2 m3 m4 m5 m6 m7 m8 m9 m10 m11 m12
  clear h
  go_enter Try.func9, Try.ntmps9
  go_wp2_with (go_at_call 33; refine (HP.out _).mono ?_; rintro e w1 ⟨rfl, ho⟩; replace HO := hide (HO.out.trans ho); clear ho)
  go_ret2
  exact print_no HV.out HO.out
set_option maxRecDepth 100000 in
set_option maxHeartbeats 3200000 in
theorem Terms_none (w : World) (m : Mg) (h : ¬ (1 ≤ m.k ∧ m.k ≤ 4)) : Calls Try.prog 37 #[.agg m.cells] w (TermsPost m w) := by
  have HMB := hide (Blk.new w 27 m.cells)
  have HO := hide ((Only.refl [] w).alloc (.cells m.cells 27))
  have HP := hide (fun W => proper_none W m h)
  have HV := hide (right_none h)
  obtain ⟨k, s, r, c, x4, x5, x6, x7, x8, x9, x10, x11, x12⟩ := m
  unfold Mg.cells at HMB HO HP ⊢
  simp only at HMB HO HP ⊢
  have m0 := HMB.out.cell 0; have m1 := HMB.out.cell 1; have m2 := HMB.out.cell 2; have m3 := HMB.out.cell 3; have m4 := HMB.out.cell 4; have m5 := HMB.out.cell 5; have m6 := HMB.out.cell 6; have m7 := HMB.out.cell 7; have m8 := HMB.out.cell 8; have m9 := HMB.out.cell 9; have m10 := HMB.out.cell 10; have m11 := HMB.out.cell 11; have m12 := HMB.out.cell 12; simp at m0 m1 m2 m3 m4 m5 m6 m7 m8 m9 m10 m11 m12
  clear h
  go_enter Try.func37, Try.ntmps37
  go_wp2_with (go_at_call 33; refine (HP.out _).mono ?_; rintro e w1 ⟨rfl, ho⟩; replace HO := hide (HO.out.trans ho); clear ho)
  go_ret
  exact terms_no HV.out HO.out
theorem kinds (k : Int) : k = 1 ∨ k = 2 ∨ k = 3 ∨ k = 4 ∨ ¬ (1 ≤ k ∧ k ≤ 4) := by omega
theorem Print_any (w : World) (m : Mg) (hF : m.Fine) : Calls Try.prog 9 #[.agg m.cells] w (PrintPost m w) := by
  obtain ⟨k, s, r, c, x4, x5, x6, x7, x8, x9, x10, x11, x12⟩ := m
  rcases kinds k with rfl | rfl | rfl | rfl | h
  · exact Print_1 w s r c x4 x5 x6 x7 x8 x9 x10 x11 x12 hF
  · exact Print_2 w s r c x4 x5 x6 x7 x8 x9 x10 x11 x12 hF
  · exact Print_3 w s r c x4 x5 x6 x7 x8 x9 x10 x11 x12 hF
  · exact Print_4 w s r c x4 x5 x6 x7 x8 x9 x10 x11 x12 hF
  · exact Print_none w _ h
theorem Terms_any (w : World) (m : Mg) (hF : m.Fine) : Calls Try.prog 37 #[.agg m.cells] w (TermsPost m w) := by
  obtain ⟨k, s, r, c, x4, x5, x6, x7, x8, x9, x10, x11, x12⟩ := m
  rcases kinds k with rfl | rfl | rfl | rfl | h
  · exact Terms_1 w s r c x4 x5 x6 x7 x8 x9 x10 x11 x12 hF
  · exact Terms_2 w s r c x4 x5 x6 x7 x8 x9 x10 x11 x12 hF
  · exact Terms_3 w s r c x4 x5 x6 x7 x8 x9 x10 x11 x12 hF
  · exact Terms_4 w s r c x4 x5 x6 x7 x8 x9 x10 x11 x12 hF
  · exact Terms_none w _ h
end Go.Proofs.Ytfmfnfmhknlpbaa

namespace Go.Proofs.Ytfmfnfmhknlpbaa
open Go.RowKit Go.Deep

theorem zero_back (n : Nat) : ∀ r : List UInt8, (zeroV n r).1 = 0 → r = List.replicate n 0 ++ (zeroV n r).2 := by
  induction n with
  | zero => intro r _; rfl
  | succ n ih =>
    intro r h
    cases r with
    | nil => simp [zeroV] at h
    | cons b r =>
      unfold zeroV at h ⊢
      by_cases hb : b = 0
      · subst hb
        simp only [if_true] at h ⊢
        rw [List.replicate_succ, List.cons_append, ← ih r h]
      · rw [if_neg hb] at h
        exact absurd h (by decide)
theorem head_back {l q : List UInt8} {k : Int} (h : headV l = (0, k, q)) : ∃ c : UInt8, (c = 1 ∨ c = 2 ∨ c = 3 ∨ c = 4) ∧ k = c.toNat ∧ l = [c, 0, 0, 0] ++ q := by
  cases l with
  | nil =>
    have h1 : (4 : Int) = 0 := congrArg Prod.fst h
    exact absurd h1 (by decide)
  | cons c r =>
    by_cases hk : c = 1 ∨ c = 2 ∨ c = 3 ∨ c = 4
    · have e : headV (c :: r) = if (zeroV 3 r).1 = 0 then (0, (c.toNat : Int), (zeroV 3 r).2) else ((zeroV 3 r).1, 0, []) := if_pos hk
      rw [e] at h
      by_cases hz : (zeroV 3 r).1 = 0
      · rw [if_pos hz] at h
        injection h with _ h
        injection h with h1 h2
        refine ⟨c, hk, h1.symm, ?_⟩
        rw [← h2]
        exact congrArg (c :: ·) (zero_back 3 r hz)
      · rw [if_neg hz] at h
        exact absurd (congrArg Prod.fst h) hz
    · have e : headV (c :: r) = (3, 0, []) := if_neg hk
      rw [e] at h
      have h1 : (3 : Int) = 0 := congrArg Prod.fst h
      exact absurd h1 (by decide)
theorem num_back {z : Nat} {q : List UInt8} (h : (numV z q).1 = 0) : q = lowB z (numV z q).2.1 ++ (numV z q).2.2 ∧ (numV z q).2.1 < 256 ^ z := by
  unfold numV at h ⊢
  by_cases hl : q.length < z
  · rw [if_pos hl] at h; exact absurd h (by decide)
  · rw [if_neg hl]
    have e : (q.take z).length = z := by rw [List.length_take]; omega
    have h1 := lowB_lowV (q.take z)
    have h2 := lowV_lt (q.take z)
    rw [e] at h1 h2
    refine ⟨?_, h2⟩
    simp only
    rw [h1, List.take_append_drop]
theorem text_back {q : List UInt8} (h : (textV q).1 = 0) : q = ((lowB 2 (textV q).2.1.size ++ (textV q).2.1.data.toList) ++ (textV q).2.2) ∧ fitW (textV q).2.1 = true := by
  unfold textV at h ⊢
  by_cases h1 : q.length < 2
  · rw [if_pos h1] at h; exact absurd h (by decide)
  · rw [if_neg h1] at h ⊢
    by_cases h2 : (q.drop 2).length < lowV (q.take 2)
    · rw [if_pos h2] at h; exact absurd h (by decide)
    · rw [if_neg h2] at h ⊢
      by_cases h3 : fitW ⟨((q.drop 2).take (lowV (q.take 2))).toArray⟩ = true
      · rw [if_pos h3]
        refine ⟨?_, h3⟩
        simp only
        have e : (q.take 2).length = 2 := by rw [List.length_take]; omega
        have hb := lowB_lowV (q.take 2)
        rw [e] at hb
        rw [size_toArray_, List.length_take, Nat.min_eq_left (by omega), hb, List.append_assoc, List.take_append_drop, List.take_append_drop]
      · rw [if_neg h3] at h; exact absurd h (by decide)
theorem fin_zero {i : Nat} {r : List Nat} {q : List UInt8} {cs x : Array Value} (h : finF (i :: r) q cs = (0, x)) : (fieldV i q).1 = 0 ∧ finF r (fieldV i q).2.2 (cs.setIfInBounds i (fieldV i q).2.1) = (0, x) := by
  unfold finF at h
  by_cases h0 : (fieldV i q).1 = 0
  · rw [if_pos h0] at h; exact ⟨h0, h⟩
  · rw [if_neg h0] at h; exact absurd (congrArg Prod.fst h) h0
theorem fin_num {i z : Nat} {r : List Nat} {q : List UInt8} {cs x : Array Value} (hi : i = 1 ∧ z = 4 ∨ i = 2 ∧ z = 4 ∨ i = 3 ∧ z = 8) (h : finF (i :: r) q cs = (0, x)) :
    ∃ n q', q = lowB z n ++ q' ∧ n < 256 ^ z ∧ finF r q' (cs.setIfInBounds i (numc i n)) = (0, x) := by
  obtain ⟨h0, h1⟩ := fin_zero h
  have e : fieldV i q = ((numV z q).1, numc i (numV z q).2.1, (numV z q).2.2) := by
    rcases hi with ⟨rfl, rfl⟩ | ⟨rfl, rfl⟩ | ⟨rfl, rfl⟩ <;> rfl
  rw [e] at h0 h1
  obtain ⟨h2, h3⟩ := num_back h0
  exact ⟨_, _, h2, h3, h1⟩
theorem fin_text {i : Nat} {r : List Nat} {q : List UInt8} {cs x : Array Value} (hi : 4 ≤ i) (h : finF (i :: r) q cs = (0, x)) :
    ∃ t q', q = (lowB 2 t.size ++ t.data.toList) ++ q' ∧ fitW t = true ∧ finF r q' (cs.setIfInBounds i (.string t)) = (0, x) := by
  obtain ⟨h0, h1⟩ := fin_zero h
  have e : fieldV i q = ((textV q).1, .string (textV q).2.1, (textV q).2.2) := by
    unfold fieldV
    rw [if_neg (by omega), if_neg (by omega)]
  rw [e] at h0 h1
  obtain ⟨h2, h3⟩ := text_back h0
  exact ⟨_, _, h2, h3, h1⟩
theorem fin_end {q : List UInt8} {cs x : Array Value} (h : finF [] q cs = (0, x)) : q = [] ∧ cs = x := by
  unfold finF at h
  by_cases h0 : q = []
  · rw [if_pos h0] at h; exact ⟨h0, congrArg Prod.snd h⟩
  · rw [if_neg h0] at h
    have h1 : (5 : Int) = 0 := congrArg Prod.fst h
    exact absurd h1 (by decide)
theorem cells_inj {m n : Mg} (h : m.cells = n.cells) : m = n := by
  obtain ⟨k, s, r, c, x4, x5, x6, x7, x8, x9, x10, x11, x12⟩ := m
  obtain ⟨k', s', r', c', y4, y5, y6, y7, y8, y9, y10, y11, y12⟩ := n
  simp only [Mg.cells, Array.mk.injEq, List.cons.injEq, Value.int.injEq, Value.string.injEq, true_and, and_true] at h
  obtain ⟨h0, h1, h2, h3, h4, h5, h6, h7, h8, h9, h10, h11, h12⟩ := h
  rw [h0, h4, h5, h6, h7, h8, h9, h10, h11, h12, show s = s' by omega, show r = r' by omega, show c = c' by omega]
theorem noT_size : noT.size = 0 := rfl
theorem fine_of {m : Mg} (hs : m.s < 4294967296) (hr : m.r < 4294967296) (hc : m.c < 18446744073709551616) (h4 : m.x4.size ≤ 65535) (h5 : m.x5.size ≤ 65535) (h6 : m.x6.size ≤ 65535) (h7 : m.x7.size ≤ 65535) (h8 : m.x8.size ≤ 65535) (h9 : m.x9.size ≤ 65535) (h10 : m.x10.size ≤ 65535) (h11 : m.x11.size ≤ 65535) (h12 : m.x12.size ≤ 65535) : m.Fine := by
  have h : 65535 ≤ maxLen := by unfold maxLen; omega
  exact ⟨hs, hr, hc, Nat.le_trans h4 h, Nat.le_trans h5 h, Nat.le_trans h6 h, Nat.le_trans h7 h, Nat.le_trans h8 h, Nat.le_trans h9 h, Nat.le_trans h10 h, Nat.le_trans h11 h, Nat.le_trans h12 h⟩
set_option maxRecDepth 100000 in
set_option maxHeartbeats 3200000 in
theorem read_right {l : List UInt8} {cs : Array Value} (h : readV l = (0, cs)) : ∃ m : Mg, cs = m.cells ∧ m.Fine ∧ rightM m = true ∧ printM m = l := by
  rcases hc : headV l with ⟨c0, k, q⟩
  by_cases h0 : c0 = 0
  case neg =>
    rw [read_head (by rw [hc]; exact h0), hc] at h
    exact absurd (congrArg Prod.fst h) h0
  subst h0
  rw [read_fin hc] at h
  obtain ⟨c, hk, rfl, hl⟩ := head_back hc
  have z0 : noT.size ≤ 65535 := by rw [noT_size]; omega
  rcases hk with rfl | rfl | rfl | rfl
  · obtain ⟨s, q1, rfl, hs, h⟩ := fin_num (z := 4) (.inl ⟨rfl, rfl⟩) (show finF [1, 4, 5, 6, 11, 12] q (zeroM 1) = (0, cs) from h)
    obtain ⟨t4, q2, rfl, f4, h⟩ := fin_text (by omega) h
    obtain ⟨t5, q3, rfl, f5, h⟩ := fin_text (by omega) h
    obtain ⟨t6, q4, rfl, f6, h⟩ := fin_text (by omega) h
    obtain ⟨t11, q5, rfl, f11, h⟩ := fin_text (by omega) h
    obtain ⟨t12, q6, rfl, f12, h⟩ := fin_text (by omega) h
    obtain ⟨rfl, rfl⟩ := fin_end h
    refine ⟨⟨1, s, 0, 0, t4, t5, t6, noT, noT, noT, noT, t11, t12⟩, rfl, fine_of (by simpa using hs) (by simp) (by simp) (fit_size f4) (fit_size f5) (fit_size f6) z0 z0 z0 z0 (fit_size f11) (fit_size f12), ?_, ?_⟩
    · simp [rightM, textsM, f4, f5, f6, f11, f12, onlyM, eqM]
    · rw [hl]; simp [printM, txtA]
  · obtain ⟨s, q1, rfl, hs, h⟩ := fin_num (z := 4) (.inl ⟨rfl, rfl⟩) (show finF [1, 2, 4, 7, 11, 12] q (zeroM 2) = (0, cs) from h)
    obtain ⟨r, q1, rfl, hr, h⟩ := fin_num (z := 4) (.inr (.inl ⟨rfl, rfl⟩)) h
    obtain ⟨t4, q2, rfl, f4, h⟩ := fin_text (by omega) h
    obtain ⟨t7, q3, rfl, f7, h⟩ := fin_text (by omega) h
    obtain ⟨t11, q5, rfl, f11, h⟩ := fin_text (by omega) h
    obtain ⟨t12, q6, rfl, f12, h⟩ := fin_text (by omega) h
    obtain ⟨rfl, rfl⟩ := fin_end h
    refine ⟨⟨2, s, r, 0, t4, noT, noT, t7, noT, noT, noT, t11, t12⟩, rfl, fine_of (by simpa using hs) (by simpa using hr) (by simp) (fit_size f4) z0 z0 (fit_size f7) z0 z0 z0 (fit_size f11) (fit_size f12), ?_, ?_⟩
    · simp [rightM, textsM, f4, f7, f11, f12, onlyM, eqM]
    · rw [hl]; simp [printM, txtA]
  · obtain ⟨r, q1, rfl, hr, h⟩ := fin_num (z := 4) (.inr (.inl ⟨rfl, rfl⟩)) (show finF [2, 8, 9] q (zeroM 3) = (0, cs) from h)
    obtain ⟨t8, q2, rfl, f8, h⟩ := fin_text (by omega) h
    obtain ⟨t9, q3, rfl, f9, h⟩ := fin_text (by omega) h
    obtain ⟨rfl, rfl⟩ := fin_end h
    refine ⟨⟨3, 0, r, 0, noT, noT, noT, noT, t8, t9, noT, noT, noT⟩, rfl, fine_of (by simp) (by simpa using hr) (by simp) z0 z0 z0 z0 (fit_size f8) (fit_size f9) z0 z0 z0, ?_, ?_⟩
    · simp [rightM, textsM, f8, f9, onlyM, eqM]
    · rw [hl]; simp [printM, txtA]
  · obtain ⟨r, q1, rfl, hr, h⟩ := fin_num (z := 4) (.inr (.inl ⟨rfl, rfl⟩)) (show finF [2, 3, 10] q (zeroM 4) = (0, cs) from h)
    obtain ⟨c, q1, rfl, hc2, h⟩ := fin_num (z := 8) (.inr (.inr ⟨rfl, rfl⟩)) h
    obtain ⟨t10, q2, rfl, f10, h⟩ := fin_text (by omega) h
    obtain ⟨rfl, rfl⟩ := fin_end h
    refine ⟨⟨4, 0, r, c, noT, noT, noT, noT, noT, noT, t10, noT, noT⟩, rfl, fine_of (by simp) (by simpa using hr) (by simpa using hc2) z0 z0 z0 z0 z0 z0 (fit_size f10) z0 z0, ?_, ?_⟩
    · simp [rightM, textsM, f10, onlyM, eqM]
    · rw [hl]; simp [printM, txtA]
theorem fin_err (is : List Nat) : ∀ (q : List UInt8) (cs : Array Value), (finF is q cs).1 ≠ 0 → (finF is q cs).2 = zeroM 0 := by
  induction is with
  | nil =>
    intro q cs h
    unfold finF at h ⊢
    by_cases h0 : q = []
    · rw [if_pos h0] at h; exact absurd rfl h
    · rw [if_neg h0]
  | cons i r ih =>
    intro q cs h
    unfold finF at h ⊢
    by_cases h0 : (fieldV i q).1 = 0
    · rw [if_pos h0] at h ⊢; exact ih _ _ h
    · rw [if_neg h0]
theorem read_cells (l : List UInt8) : ∃ m : Mg, (readV l).2 = m.cells ∧ m.Fine := by
  rcases h : readV l with ⟨c, cs⟩
  by_cases h0 : c = 0
  · subst h0
    obtain ⟨m, h1, h2, _⟩ := read_right h
    exact ⟨m, h1, h2⟩
  · refine ⟨⟨0, 0, 0, 0, noT, noT, noT, noT, noT, noT, noT, noT, noT⟩, ?_, fine_of (by simp) (by simp) (by simp) (by rw [noT_size]; omega) (by rw [noT_size]; omega) (by rw [noT_size]; omega) (by rw [noT_size]; omega) (by rw [noT_size]; omega) (by rw [noT_size]; omega) (by rw [noT_size]; omega) (by rw [noT_size]; omega) (by rw [noT_size]; omega)⟩
    have e : readV l = (c, zeroM 0) := by
      rcases hc : headV l with ⟨c0, k, q⟩
      by_cases h1 : c0 = 0
      · subst h1
        rw [read_fin hc] at h ⊢
        have h2 := fin_err (rowL k) q (zeroM k) (by rw [h]; exact h0)
        rw [h] at h2 ⊢
        exact congrArg (Prod.mk c) h2
      · have h2 := read_head (l := l) (by rw [hc]; exact h1)
        rw [h] at h2 ⊢
        injection h2 with h3 h4
        rw [h4]
    rw [h] at e
    exact congrArg Prod.snd e
end Go.Proofs.Ytfmfnfmhknlpbaa

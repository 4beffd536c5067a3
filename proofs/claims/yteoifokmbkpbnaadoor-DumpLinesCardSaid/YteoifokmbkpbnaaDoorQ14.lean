/-
  Walks and plain words (texts Wl0, Wn, Nr1, Nr2, Nr3, Nr4). No condition beyond those that each theorem states.
-/
import Derived.Lib.AppendStr
import Derived.Lib.ItoaMem
import Derived.StillTailTactics
import Derived.Test.YteoifokmbkpbnaaDoorQ13
namespace Go.Proofs.YteoifokmbkpbnaaDoor
section
open Go.RowKit Go.Deep

/-- A text behind some bytes. -/
def txtA (l : List UInt8) (x : ByteArray) : List UInt8 := (l ++ lowB 2 x.size) ++ x.data.toList
/-- A message's bytes. -/
def printM (m : Mg) : List UInt8 :=
  if m.k = 1 then txtA (txtA (txtA (txtA (txtA ([1, 0, 0, 0] ++ lowB 4 m.s) m.x4) m.x5) m.x6) m.x11) m.x12
  else if m.k = 2 then txtA (txtA (txtA (txtA (([2, 0, 0, 0] ++ lowB 4 m.s) ++ lowB 4 m.r) m.x4) m.x7) m.x11) m.x12
  else if m.k = 3 then txtA (txtA ([3, 0, 0, 0] ++ lowB 4 m.r) m.x8) m.x9
  else txtA (([4, 0, 0, 0] ++ lowB 4 m.r) ++ lowB 8 m.c) m.x10
theorem fit_size {x : ByteArray} (h : fitW x = true) : x.size ≤ 65535 := by
  unfold fitW at h
  rw [Bool.and_eq_true] at h
  exact of_decide_eq_true h.1
theorem str_cells (s : ByteArray) : Lib.strCells s = ints .u8 (byts s.data.toList) := by simp [Lib.strCells, ints, byts]
theorem only_below {S : List Nat} {B : Nat} {w u u' : World} (h : Only S w u) (hb : Below B u u') (hB : w.heap.size ≤ B) : Only S w u' :=
  ⟨hb.os.trans h.os, hb.tape.trans h.tape, hb.output.trans h.output, Nat.le_trans h.size hb.size, fun i hi hn => (hb.block i (by omega)).trans (h.block i hi hn)⟩
theorem below_row {B : Nat} {w w2 : World} {row : Option Nat} (hg : w.grownBy w2 row) (hr : ∀ k, row = some k → B ≤ k) (hB : B ≤ w.heap.size) : Below B w w2 := below_grown_ (below_refl_ B w) hg hr hB
end
section
open Go.RowKit Go.Deep

theorem zero_back (n : Nat) : ∀ r : List UInt8, (zeroV n r).1 = 0 → r = List.replicate n 0 ++ (zeroV n r).2 := by
  induction n with
  | zero => intro r _; rfl
  | succ n ih =>
    intro r h
    cases r with
    | nil => simp [zeroV] at h
    | cons b r =>
      unfold zeroV at h ⊢
      by_cases hb : b = 0
      · subst hb
        simp only [if_true] at h ⊢
        rw [List.replicate_succ, List.cons_append, ← ih r h]
      · rw [if_neg hb] at h
        exact absurd h (by decide)
theorem head_back {l q : List UInt8} {k : Int} (h : headV l = (0, k, q)) : ∃ c : UInt8, (c = 1 ∨ c = 2 ∨ c = 3 ∨ c = 4) ∧ k = c.toNat ∧ l = [c, 0, 0, 0] ++ q := by
  cases l with
  | nil =>
    have h1 : (4 : Int) = 0 := congrArg Prod.fst h
    exact absurd h1 (by decide)
  | cons c r =>
    by_cases hk : c = 1 ∨ c = 2 ∨ c = 3 ∨ c = 4
    · have e : headV (c :: r) = if (zeroV 3 r).1 = 0 then (0, (c.toNat : Int), (zeroV 3 r).2) else ((zeroV 3 r).1, 0, []) := if_pos hk
      rw [e] at h
      by_cases hz : (zeroV 3 r).1 = 0
      · rw [if_pos hz] at h
        injection h with _ h
        injection h with h1 h2
        refine ⟨c, hk, h1.symm, ?_⟩
        rw [← h2]
        exact congrArg (c :: ·) (zero_back 3 r hz)
      · rw [if_neg hz] at h
        exact absurd (congrArg Prod.fst h) hz
    · have e : headV (c :: r) = (3, 0, []) := if_neg hk
      rw [e] at h
      have h1 : (3 : Int) = 0 := congrArg Prod.fst h
      exact absurd h1 (by decide)
theorem num_back {z : Nat} {q : List UInt8} (h : (numV z q).1 = 0) : q = lowB z (numV z q).2.1 ++ (numV z q).2.2 ∧ (numV z q).2.1 < 256 ^ z := by
  unfold numV at h ⊢
  by_cases hl : q.length < z
  · rw [if_pos hl] at h; exact absurd h (by decide)
  · rw [if_neg hl]
    have e : (q.take z).length = z := by rw [List.length_take]; omega
    have h1 := lowB_lowV (q.take z)
    have h2 := lowV_lt (q.take z)
    rw [e] at h1 h2
    refine ⟨?_, h2⟩
    simp only
    rw [h1, List.take_append_drop]
theorem text_back {q : List UInt8} (h : (textV q).1 = 0) : q = ((lowB 2 (textV q).2.1.size ++ (textV q).2.1.data.toList) ++ (textV q).2.2) ∧ fitW (textV q).2.1 = true := by
  unfold textV at h ⊢
  by_cases h1 : q.length < 2
  · rw [if_pos h1] at h; exact absurd h (by decide)
  · rw [if_neg h1] at h ⊢
    by_cases h2 : (q.drop 2).length < lowV (q.take 2)
    · rw [if_pos h2] at h; exact absurd h (by decide)
    · rw [if_neg h2] at h ⊢
      by_cases h3 : fitW ⟨((q.drop 2).take (lowV (q.take 2))).toArray⟩ = true
      · rw [if_pos h3]
        refine ⟨?_, h3⟩
        simp only
        have e : (q.take 2).length = 2 := by rw [List.length_take]; omega
        have hb := lowB_lowV (q.take 2)
        rw [e] at hb
        rw [size_toArray_, List.length_take, Nat.min_eq_left (by omega), hb, List.append_assoc, List.take_append_drop, List.take_append_drop]
      · rw [if_neg h3] at h; exact absurd h (by decide)
theorem fin_zero {i : Nat} {r : List Nat} {q : List UInt8} {cs x : Array Value} (h : finF (i :: r) q cs = (0, x)) : (fieldV i q).1 = 0 ∧ finF r (fieldV i q).2.2 (cs.setIfInBounds i (fieldV i q).2.1) = (0, x) := by
  unfold finF at h
  by_cases h0 : (fieldV i q).1 = 0
  · rw [if_pos h0] at h; exact ⟨h0, h⟩
  · rw [if_neg h0] at h; exact absurd (congrArg Prod.fst h) h0
theorem fin_num {i z : Nat} {r : List Nat} {q : List UInt8} {cs x : Array Value} (hi : i = 1 ∧ z = 4 ∨ i = 2 ∧ z = 4 ∨ i = 3 ∧ z = 8) (h : finF (i :: r) q cs = (0, x)) :
    ∃ n q', q = lowB z n ++ q' ∧ n < 256 ^ z ∧ finF r q' (cs.setIfInBounds i (numc i n)) = (0, x) := by
  obtain ⟨h0, h1⟩ := fin_zero h
  have e : fieldV i q = ((numV z q).1, numc i (numV z q).2.1, (numV z q).2.2) := by
    rcases hi with ⟨rfl, rfl⟩ | ⟨rfl, rfl⟩ | ⟨rfl, rfl⟩ <;> rfl
  rw [e] at h0 h1
  obtain ⟨h2, h3⟩ := num_back h0
  exact ⟨_, _, h2, h3, h1⟩
theorem fin_text {i : Nat} {r : List Nat} {q : List UInt8} {cs x : Array Value} (hi : 4 ≤ i) (h : finF (i :: r) q cs = (0, x)) :
    ∃ t q', q = (lowB 2 t.size ++ t.data.toList) ++ q' ∧ fitW t = true ∧ finF r q' (cs.setIfInBounds i (.string t)) = (0, x) := by
  obtain ⟨h0, h1⟩ := fin_zero h
  have e : fieldV i q = ((textV q).1, .string (textV q).2.1, (textV q).2.2) := by
    unfold fieldV
    rw [if_neg (by omega), if_neg (by omega)]
  rw [e] at h0 h1
  obtain ⟨h2, h3⟩ := text_back h0
  exact ⟨_, _, h2, h3, h1⟩
theorem fin_end {q : List UInt8} {cs x : Array Value} (h : finF [] q cs = (0, x)) : q = [] ∧ cs = x := by
  unfold finF at h
  by_cases h0 : q = []
  · rw [if_pos h0] at h; exact ⟨h0, congrArg Prod.snd h⟩
  · rw [if_neg h0] at h
    have h1 : (5 : Int) = 0 := congrArg Prod.fst h
    exact absurd h1 (by decide)
theorem cells_inj {m n : Mg} (h : m.cells = n.cells) : m = n := by
  obtain ⟨k, s, r, c, x4, x5, x6, x7, x8, x9, x10, x11, x12⟩ := m
  obtain ⟨k', s', r', c', y4, y5, y6, y7, y8, y9, y10, y11, y12⟩ := n
  simp only [Mg.cells, Array.mk.injEq, List.cons.injEq, Value.int.injEq, Value.string.injEq, true_and, and_true] at h
  obtain ⟨h0, h1, h2, h3, h4, h5, h6, h7, h8, h9, h10, h11, h12⟩ := h
  rw [h0, h4, h5, h6, h7, h8, h9, h10, h11, h12, show s = s' by omega, show r = r' by omega, show c = c' by omega]
theorem noT_size : noT.size = 0 := rfl
theorem fine_of {m : Mg} (hs : m.s < 4294967296) (hr : m.r < 4294967296) (hc : m.c < 18446744073709551616) (h4 : m.x4.size ≤ 65535) (h5 : m.x5.size ≤ 65535) (h6 : m.x6.size ≤ 65535) (h7 : m.x7.size ≤ 65535) (h8 : m.x8.size ≤ 65535) (h9 : m.x9.size ≤ 65535) (h10 : m.x10.size ≤ 65535) (h11 : m.x11.size ≤ 65535) (h12 : m.x12.size ≤ 65535) : m.Fine := by
  have h : 65535 ≤ maxLen := by unfold maxLen; omega
  exact ⟨hs, hr, hc, Nat.le_trans h4 h, Nat.le_trans h5 h, Nat.le_trans h6 h, Nat.le_trans h7 h, Nat.le_trans h8 h, Nat.le_trans h9 h, Nat.le_trans h10 h, Nat.le_trans h11 h, Nat.le_trans h12 h⟩
set_option maxRecDepth 100000 in
set_option maxHeartbeats 3200000 in
theorem read_right {l : List UInt8} {cs : Array Value} (h : readV l = (0, cs)) : ∃ m : Mg, cs = m.cells ∧ m.Fine ∧ rightM m = true ∧ printM m = l := by
  rcases hc : headV l with ⟨c0, k, q⟩
  by_cases h0 : c0 = 0
  case neg =>
    rw [read_head (by rw [hc]; exact h0), hc] at h
    exact absurd (congrArg Prod.fst h) h0
  subst h0
  rw [read_fin hc] at h
  obtain ⟨c, hk, rfl, hl⟩ := head_back hc
  have z0 : noT.size ≤ 65535 := by rw [noT_size]; omega
  rcases hk with rfl | rfl | rfl | rfl
  · obtain ⟨s, q1, rfl, hs, h⟩ := fin_num (z := 4) (.inl ⟨rfl, rfl⟩) (show finF [1, 4, 5, 6, 11, 12] q (zeroM 1) = (0, cs) from h)
    obtain ⟨t4, q2, rfl, f4, h⟩ := fin_text (by omega) h
    obtain ⟨t5, q3, rfl, f5, h⟩ := fin_text (by omega) h
    obtain ⟨t6, q4, rfl, f6, h⟩ := fin_text (by omega) h
    obtain ⟨t11, q5, rfl, f11, h⟩ := fin_text (by omega) h
    obtain ⟨t12, q6, rfl, f12, h⟩ := fin_text (by omega) h
    obtain ⟨rfl, rfl⟩ := fin_end h
    refine ⟨⟨1, s, 0, 0, t4, t5, t6, noT, noT, noT, noT, t11, t12⟩, rfl, fine_of (by simpa using hs) (by simp) (by simp) (fit_size f4) (fit_size f5) (fit_size f6) z0 z0 z0 z0 (fit_size f11) (fit_size f12), ?_, ?_⟩
    · simp [rightM, textsM, f4, f5, f6, f11, f12, onlyM, eqM]
    · rw [hl]; simp [printM, txtA]
  · obtain ⟨s, q1, rfl, hs, h⟩ := fin_num (z := 4) (.inl ⟨rfl, rfl⟩) (show finF [1, 2, 4, 7, 11, 12] q (zeroM 2) = (0, cs) from h)
    obtain ⟨r, q1, rfl, hr, h⟩ := fin_num (z := 4) (.inr (.inl ⟨rfl, rfl⟩)) h
    obtain ⟨t4, q2, rfl, f4, h⟩ := fin_text (by omega) h
    obtain ⟨t7, q3, rfl, f7, h⟩ := fin_text (by omega) h
    obtain ⟨t11, q5, rfl, f11, h⟩ := fin_text (by omega) h
    obtain ⟨t12, q6, rfl, f12, h⟩ := fin_text (by omega) h
    obtain ⟨rfl, rfl⟩ := fin_end h
    refine ⟨⟨2, s, r, 0, t4, noT, noT, t7, noT, noT, noT, t11, t12⟩, rfl, fine_of (by simpa using hs) (by simpa using hr) (by simp) (fit_size f4) z0 z0 (fit_size f7) z0 z0 z0 (fit_size f11) (fit_size f12), ?_, ?_⟩
    · simp [rightM, textsM, f4, f7, f11, f12, onlyM, eqM]
    · rw [hl]; simp [printM, txtA]
  · obtain ⟨r, q1, rfl, hr, h⟩ := fin_num (z := 4) (.inr (.inl ⟨rfl, rfl⟩)) (show finF [2, 8, 9] q (zeroM 3) = (0, cs) from h)
    obtain ⟨t8, q2, rfl, f8, h⟩ := fin_text (by omega) h
    obtain ⟨t9, q3, rfl, f9, h⟩ := fin_text (by omega) h
    obtain ⟨rfl, rfl⟩ := fin_end h
    refine ⟨⟨3, 0, r, 0, noT, noT, noT, noT, t8, t9, noT, noT, noT⟩, rfl, fine_of (by simp) (by simpa using hr) (by simp) z0 z0 z0 z0 (fit_size f8) (fit_size f9) z0 z0 z0, ?_, ?_⟩
    · simp [rightM, textsM, f8, f9, onlyM, eqM]
    · rw [hl]; simp [printM, txtA]
  · obtain ⟨r, q1, rfl, hr, h⟩ := fin_num (z := 4) (.inr (.inl ⟨rfl, rfl⟩)) (show finF [2, 3, 10] q (zeroM 4) = (0, cs) from h)
    obtain ⟨c, q1, rfl, hc2, h⟩ := fin_num (z := 8) (.inr (.inr ⟨rfl, rfl⟩)) h
    obtain ⟨t10, q2, rfl, f10, h⟩ := fin_text (by omega) h
    obtain ⟨rfl, rfl⟩ := fin_end h
    refine ⟨⟨4, 0, r, c, noT, noT, noT, noT, noT, noT, t10, noT, noT⟩, rfl, fine_of (by simp) (by simpa using hr) (by simpa using hc2) z0 z0 z0 z0 z0 z0 (fit_size f10) z0 z0, ?_, ?_⟩
    · simp [rightM, textsM, f10, onlyM, eqM]
    · rw [hl]; simp [printM, txtA]
theorem fin_err (is : List Nat) : ∀ (q : List UInt8) (cs : Array Value), (finF is q cs).1 ≠ 0 → (finF is q cs).2 = zeroM 0 := by
  induction is with
  | nil =>
    intro q cs h
    unfold finF at h ⊢
    by_cases h0 : q = []
    · rw [if_pos h0] at h; exact absurd rfl h
    · rw [if_neg h0]
  | cons i r ih =>
    intro q cs h
    unfold finF at h ⊢
    by_cases h0 : (fieldV i q).1 = 0
    · rw [if_pos h0] at h ⊢; exact ih _ _ h
    · rw [if_neg h0]
theorem read_cells (l : List UInt8) : ∃ m : Mg, (readV l).2 = m.cells ∧ m.Fine := by
  rcases h : readV l with ⟨c, cs⟩
  by_cases h0 : c = 0
  · subst h0
    obtain ⟨m, h1, h2, _⟩ := read_right h
    exact ⟨m, h1, h2⟩
  · refine ⟨⟨0, 0, 0, 0, noT, noT, noT, noT, noT, noT, noT, noT, noT⟩, ?_, fine_of (by simp) (by simp) (by simp) (by rw [noT_size]; omega) (by rw [noT_size]; omega) (by rw [noT_size]; omega) (by rw [noT_size]; omega) (by rw [noT_size]; omega) (by rw [noT_size]; omega) (by rw [noT_size]; omega) (by rw [noT_size]; omega) (by rw [noT_size]; omega)⟩
    have e : readV l = (c, zeroM 0) := by
      rcases hc : headV l with ⟨c0, k, q⟩
      by_cases h1 : c0 = 0
      · subst h1
        rw [read_fin hc] at h ⊢
        have h2 := fin_err (rowL k) q (zeroM k) (by rw [h]; exact h0)
        rw [h] at h2 ⊢
        exact congrArg (Prod.mk c) h2
      · have h2 := read_head (l := l) (by rw [hc]; exact h1)
        rw [h] at h2 ⊢
        injection h2 with h3 h4
        rw [h4]
    rw [h] at e
    exact congrArg Prod.snd e
end
section
open Go.RowKit Go.Deep

theorem ret_i {k : IntKind} {a b : Int} (h : a = b) : Ending.returned (.int k a) = .returned (.int k b) := by rw [h]
set_option maxHeartbeats 1600000 in
theorem digit_any (n : Nat) (h : n < 16) (w : World) : Calls Tryd.prog 58 #[.int .u8 (n : Int)] w fun e w' => e = .returned (.int .u8 ((hd n).toNat : Int)) ∧ w = w' := by
  have hv := hd_nat n h
  by_cases h1 : n < 10
  · rw [if_pos h1] at hv
    have HV := hide hv
    have h1' : (n : Int) < 10 := by omega
    clear hv h1
    go_enter Tryd.func58, Tryd.ntmps58
    go_wp2_with fail
    go_ret
    exact ⟨ret_i (by rw [HV.out]; omega), rfl⟩
  · rw [if_neg h1] at hv
    have HV := hide hv
    have h1' : ¬ (n : Int) < 10 := by omega
    clear hv h1
    go_enter Tryd.func58, Tryd.ntmps58
    go_wp2_with fail
    go_ret
    exact ⟨ret_i (by rw [HV.out]; omega), rfl⟩

/-- 'string([]byte{x})', the slice just built. -/
theorem conv_one (c : UInt8) (W : World) : (convert 23 9 (.slice (some ⟨W.heap.size, 0, none⟩) 1 1)).run Tryd.prog (W.alloc (.cells #[.int .u8 (c.toNat : Int)] 5)) = .ok (.string ⟨[c].toArray⟩) (W.alloc (.cells #[.int .u8 (c.toNat : Int)] 5)) :=
  rd_string (l := [c]) (N := []) (rd_new W 5 [] [.int .u8 (c.toNat : Int)] (by simp) (by unfold maxLen; simp)) 23 9 5 Tryd.underlying23 Tryd.underlying5 Tryd.underlying9
theorem dec_split (u : Nat) (h : ¬ u < 10) : Lib.decDigits u = Lib.decDigits (u / 10) ++ [UInt8.ofNat (48 + u % 10)] := by
  rw [Lib.decDigits, dif_neg h]
theorem dec_len (u : Nat) (h : u < 18446744073709551616) : (Lib.decDigits u).length ≤ 20 := by
  rw [Lib.decDigits_length]
  rcases Nat.eq_zero_or_pos u with h0 | h0
  · subst h0; rw [Lib.nDigits_small (by omega)]; omega
  · have := Lib.numDigits_eq u h0 h
    split at this <;> omega

set_option maxRecDepth 100000 in
set_option maxHeartbeats 3200000 in
theorem print_ref (u : Nat) (hu : u < 18446744073709551616) (w : World) : Calls Tryd.prog 37 #[.int .u64 u] w (StrPost (Lib.decDigits u) w) := by
  have HL := hide (dec_len u hu)
  have HO := hide (Only.refl [] w)
  go_enter Tryd.func37, Tryd.ntmps37
  go_wp2_with fail
  go_loopw [0, 3] (fun x s wr => ∃ (v : Nat) (t : List UInt8), x = .int .u64 v ∧ v < 18446744073709551616 ∧ s = .string ⟨t.toArray⟩ ∧ t.length ≤ 20 ∧ Hid (Lib.decDigits u = Lib.decDigits v ++ t) ∧ Hid (Only [] w wr)) (fun x _ _ => (intOf x).toNat)
  case atStart => exact ⟨u, [], rfl, hu, rfl, by simp, hide (by simp), HO⟩
  case round =>
    obtain ⟨v, t, rfl, hv, rfl, htl, hd, ho⟩ := hrel
    clear hu
    have hm10 : v % 10 < 10 := Nat.mod_lt _ (by omega)
    have hb : (UInt8.ofNat (48 + v % 10)).toNat = 48 + v % 10 := by rw [UInt8.toNat_ofNat']; omega
    by_cases h9 : 9 < v
    · have h9' : (9 : Int) < v := by omega
      have HS := hide (dec_split v (by omega))
      have hcv := fun W => conv_one (UInt8.ofNat (48 + v % 10)) W
      have hlen : (UInt8.ofNat (48 + v % 10) :: t).length ≤ 20 := by
        have h1 := HL.out
        rw [hd.out, List.length_append, HS.out, List.length_append] at h1
        simp at h1 ⊢
        omega
      rw [hb, show ((48 + v % 10 : Nat) : Int) = 48 + (v : Int) % 10 by omega] at hcv
      generalize UInt8.ofNat (48 + v % 10) = c at *
      have hadd : ∀ W : World, (Op.stringOp .add ⟨[c].toArray⟩ ⟨t.toArray⟩).run Tryd.prog W = .ok (.string ⟨([c] ++ t).toArray⟩) W := fun W => run_string_add_lists W _ _ (by simp) (by omega)
      have hx0 : 0 ≤ (v : Int) % 10 := by omega
      have hx9 : (v : Int) % 10 ≤ 9 := by omega
      clear hb hm10
      go_wp2_with fail
      go_roundw
      case rel => exact ⟨v / 10, c :: t, (by rw [show ((v / 10 : Nat) : Int) = (v : Int) / 10 by omega]), by omega, rfl, hlen, hide (by rw [hd.out, HS.out, List.append_assoc]; rfl), ho.out.alloc _⟩
      case measure => simp [intOf]; omega
    · have h9' : ¬ (9 : Int) < v := by omega
      have hmod : v % 10 = v := by omega
      rw [hmod] at hb
      have hcv := fun W => conv_one (UInt8.ofNat (48 + v)) W
      have HV := hide (show Lib.decDigits u = UInt8.ofNat (48 + v) :: t by rw [hd.out, Lib.decDigits, dif_pos (by omega)]; rfl)
      rw [hb, show ((48 + v : Nat) : Int) = 48 + (v : Int) by omega] at hcv
      generalize UInt8.ofNat (48 + v) = c at *
      have hadd : ∀ W : World, (Op.stringOp .add ⟨[c].toArray⟩ ⟨t.toArray⟩).run Tryd.prog W = .ok (.string ⟨([c] ++ t).toArray⟩) W := fun W => run_string_add_lists W _ _ (by simp) (by omega)
      clear hb hm10 hmod
      go_wp2_with fail
      go_ret
      exact strpost HV.out (ho.out.alloc _)
end
section
open Go.RowKit Go.Deep

def NumRPost' (r : Nat × Nat) (w : World) (e : Ending) (w' : World) : Prop := e = .returned (.tuple #[.int .u64 r.1, .int .i64 r.2]) ∧ w = w'
theorem numr' {a b : Nat} {r : Nat × Nat} {w : World} (h : r = (a, b)) : NumRPost' r w (.returned (.tuple #[.int .u64 a, .int .i64 b])) w := by
  subst h; exact ⟨rfl, rfl⟩

set_option maxRecDepth 100000 in
set_option maxHeartbeats 6400000 in
theorem read_ref (w : World) (s : ByteArray) (hs : s.size ≤ 1000000) : Calls Tryd.prog 28 #[.string s] w (NumRPost' (numR s.data.toList) w) := by
  by_cases h0 : s.size = 0
  · have HR := hide (numR_empty s h0)
    have hb : ((s.size : Int) == 0) = true := by rw [beq_iff_eq]; omega
    have hb1 : (s.size == 0) = true := by simpa using h0
    clear h0
    go_enter Tryd.func28, Tryd.ntmps28
    go_wp2_with fail
    go_ret2
    exact numr' HR.out
  have hpos : 0 < s.size := by omega
  have hb : ((s.size : Int) == 0) = false := by rw [beq_eq_false_iff_ne]; omega
  have hb1 : (s.size == 0) = false := by simpa using h0
  by_cases hlead : s[0].toNat = 48 ∧ 1 < s.size
  · have HR := hide (numR_lead s hlead.2 hlead.1)
    obtain ⟨h1, h2⟩ := hlead
    have h2' : (1 : Int) < s.size := by omega
    have h1' : ((s[0].toNat : Int) == 48) = true := by rw [beq_iff_eq]; omega
    clear h0 h1
    go_enter Tryd.func28, Tryd.ntmps28
    go_wp2_with fail
    go_ret2
    exact numr' HR.out
  have HLE := hide hlead
  have hcs : (¬ (1 : Int) < s.size) ∨ ((1 : Int) < s.size ∧ ((s[0].toNat : Int) == 48) = false) := by
    by_cases h2 : 1 < s.size
    · refine .inr ⟨by omega, ?_⟩
      rw [beq_eq_false_iff_ne]
      intro h
      exact hlead ⟨by omega, h2⟩
    · exact .inl (by omega)
  clear h0 hlead
  rcases hcs with h2 | ⟨h2, h1⟩
  all_goals
    go_enter Tryd.func28, Tryd.ntmps28
    go_wp2_with fail
    go_loop [4] (fun i => ∃ k : Nat, k ≤ s.size ∧ i = .int .i64 k ∧ Hid (Digs s k)) (fun i => s.size - (intOf i).toNat)
    case atStart => exact ⟨0, Nat.zero_le _, rfl, hide (fun i _ h => by omega)⟩
    case round =>
      obtain ⟨k, hk, rfl, hdg⟩ := hrel
      by_cases hlt : k < s.size
      · have hltI : (k : Int) < s.size := by omega
        cases hd : digB s[k] with
        | true =>
          have hc1 : (48 : Int) ≤ s[k].toNat := by simp [digB] at hd; omega
          have hc2 : (s[k].toNat : Int) ≤ 57 := by simp [digB] at hd; omega
          have HS := hide (digs_succ hdg.out hlt hd)
          clear hd
          go_wp2_with fail
          go_round
          case rel => exact ⟨k + 1, by omega, by go_num, HS⟩
          case measure => simp [intOf]; omega
        | false =>
          have HR := hide (numR_bad s k hlt hd)
          have hb : (s[k].toNat : Int) < 48 ∨ (57 : Int) < s[k].toNat ∧ ¬ (s[k].toNat : Int) < 48 := by simp [digB] at hd; omega
          clear hd
          rcases hb with hb | ⟨hb, hb2⟩
          all_goals
            go_wp2_with fail
            go_ret2
            exact numr' HR.out
      · obtain rfl : k = s.size := by omega
        have hge : ¬ (s.size : Int) < s.size := by omega
        have HALL := hide hdg.out
        have HGO := hide (numR_go s hpos (all_true s.data.toList fun i hi => hdg.out i (by simpa using hi) (by simpa using hi)) HLE.out)
        clear hdg
        go_wp2_with fail
        go_loop [5, 6] (fun x i => ∃ u k : Nat, k ≤ s.size ∧ x = .int .u64 u ∧ u < 18446744073709551616 ∧ i = .int .i64 k ∧ Hid (accN (s.data.toList.drop k) u = accN s.data.toList 0)) (fun _ i => s.size - (intOf i).toNat)
        case atStart => exact ⟨0, 0, Nat.zero_le _, rfl, by omega, rfl, hide rfl⟩
        case round =>
          obtain ⟨u, k, hk, rfl, hu, rfl, hacc⟩ := hrel
          by_cases hlt : k < s.size
          · have hltI : (k : Int) < s.size := by omega
            have HDR := hide (drop_at s k hlt)
            have HC := HALL.out k hlt hlt
            have hc1 : 48 ≤ s[k].toNat := by simp [digB] at HC; omega
            have hc2 : s[k].toNat ≤ 57 := by simp [digB] at HC; omega
            have hc1' : (48 : Int) ≤ s[k].toNat := by omega
            have hc2' : (s[k].toNat : Int) ≤ 57 := by omega
            clear HC
            by_cases hov : 1844674407370955161 < u ∨ (u = 1844674407370955161 ∧ 5 < s[k].toNat - 48)
            · have HR := hide (show numR s.data.toList = (0, 5) from by rw [HGO.out, ← hacc.out, HDR.out, accN, if_pos hov])
              have ht : (18446744073709551615 - ((s[k].toNat : Int) - 48)) / 10 < (u : Int) := by omega
              clear hov
              go_wp2_with fail
              go_ret2
              exact numr' HR.out
            · have HN := hide (show accN (s.data.toList.drop (k + 1)) (u * 10 + (s[k].toNat - 48)) = accN s.data.toList 0 from by rw [← hacc.out, HDR.out, accN, if_neg hov])
              have ht : ¬ (18446744073709551615 - ((s[k].toNat : Int) - 48)) / 10 < (u : Int) := by omega
              have hlim : u * 10 + (s[k].toNat - 48) < 18446744073709551616 := by omega
              clear hov
              go_wp2_with fail
              go_round
              case rel => exact ⟨u * 10 + (s[k].toNat - 48), k + 1, by omega, congrArg (Value.int .u64) (by omega), hlim, (by go_num), HN⟩
              case measure => simp [intOf]; omega
          · obtain rfl : k = s.size := by omega
            have hge : ¬ (s.size : Int) < s.size := by omega
            have HR := hide (show numR s.data.toList = (u, 0) from by rw [HGO.out, ← hacc.out, show List.drop s.size s.data.toList = [] from List.drop_of_length_le (Nat.le_of_eq rfl)]; rfl)
            go_wp2_with fail
            go_ret2
            exact numr' HR.out
end
section
open Go.RowKit Go.Deep

def valV (c : UInt8) : Nat := if hexB c = true then nib c else 16
theorem hd_eq (n : Nat) (h : n < 16) (c : UInt8) : (hd n).toNat = c.toNat ↔ (hexB c = true ∧ nib c = n) := by
  rw [hd_nat n h]
  have hc := c.toNat_lt
  unfold hexB nib signV
  by_cases h1 : n < 10
  · rw [if_pos h1]
    constructor
    · intro e
      rw [if_pos (by omega)]
      exact ⟨by simp; omega, by omega⟩
    · rintro ⟨a, b⟩
      split at b
      · omega
      · split at b <;> rename_i h2 h3
        · omega
        · simp only [h2, h3, if_false] at a
          simp at a
  · rw [if_neg h1]
    constructor
    · intro e
      rw [if_neg (by omega), if_pos (by omega)]
      exact ⟨by simp; omega, by omega⟩
    · rintro ⟨a, b⟩
      split at b
      · omega
      · split at b <;> rename_i h2 h3
        · omega
        · omega

set_option maxHeartbeats 3200000 in
theorem value_any (c : UInt8) (w : World) : Calls Tryd.prog 53 #[.int .u8 (c.toNat : Int)] w fun e w' => e = .returned (.int .u8 (valV c : Nat)) ∧ w = w' := by
  go_enter Tryd.func53, Tryd.ntmps53
  go_wp2_with fail
  go_loop [3] (fun i => ∃ k : Nat, k ≤ 16 ∧ i = .int .u8 k ∧ Hid (∀ m, m < k → (hd m).toNat ≠ c.toNat)) (fun i => 16 - (intOf i).toNat)
  case atStart => exact ⟨0, by omega, rfl, hide (fun m h => by omega)⟩
  case round =>
    obtain ⟨k, hk, rfl, hne⟩ := hrel
    by_cases hlt : k < 16
    · have hlt' : (k : Int) < 16 := by omega
      have HD := hide (fun W => digit_any k hlt W)
      by_cases he : (hd k).toNat = c.toNat
      · have HV := hide (show valV c = k by
          have := (hd_eq k hlt c).1 he
          unfold valV; rw [if_pos this.1]; exact this.2)
        have heb : (((hd k).toNat : Int) == (c.toNat : Int)) = true := by rw [beq_iff_eq]; omega
        have heb2 : ((hd k).toNat == c.toNat) = true := by simpa using he
        clear he
        generalize (hd k).toNat = y at *
        go_wp2_with (go_at_call 58; refine (HD.out _).mono ?_; rintro e w' ⟨rfl, rfl⟩)
        go_ret
        exact ⟨ret_i (by rw [HV.out]), rfl⟩
      · have heb : (((hd k).toNat : Int) == (c.toNat : Int)) = false := by rw [beq_eq_false_iff_ne]; omega
        have heb2 : ((hd k).toNat == c.toNat) = false := by simpa using he
        have HN := hide (show ∀ m, m < k + 1 → (hd m).toNat ≠ c.toNat from fun m hm => by
          by_cases e : m = k
          · subst e; exact he
          · exact hne.out m (by omega))
        clear he
        generalize (hd k).toNat = y at heb heb2 HD
        go_wp2_with (go_at_call 58; refine (HD.out _).mono ?_; rintro e w' ⟨rfl, rfl⟩)
        go_round
        case rel => exact ⟨k + 1, by omega, by go_num, HN⟩
        case measure => simp [intOf]; omega
    · obtain rfl : k = 16 := by omega
      have HV := hide (show valV c = 16 by
        unfold valV
        split
        · rename_i hx
          exact absurd ((hd_eq (nib c) (nib_lt c) c).2 ⟨hx, rfl⟩) (hne.out _ (nib_lt c))
        · rfl)
      go_wp2_with fail
      go_ret
      exact ⟨ret_i (by rw [HV.out]; rfl), rfl⟩
end
section
open Go.RowKit Go.Deep

theorem valV_hex {c : UInt8} (h : hexB c = true) : valV c = nib c := by unfold valV; rw [if_pos h]
theorem valV_bad {c : UInt8} (h : hexB c = false) : valV c = 16 := by unfold valV; rw [if_neg (by rw [h]; exact Bool.false_ne_true)]

set_option maxRecDepth 100000 in
set_option maxHeartbeats 6400000 in
theorem readhex_ref (w : World) (s : ByteArray) (hs : s.size ≤ 1000000) :
    Calls Tryd.prog 27 #[.string s] w (BytsPost (hexR s.data.toList) w) := by
  obtain ⟨i0, hi, hz0, hz1, hz2⟩ := info_parts (show (Tryd.prog.info? 5).map (fun i => (i.zero, i.size, i.bytes)) = some (some (.int .u8 0), 1, 1) by kernel_rfl)
  go_enter Tryd.func27, Tryd.ntmps27
  go_wp2_with fail
  go_loop [4] (fun i => ∃ k : Nat, k ≤ s.size ∧ i = .int .i64 k ∧ Hid (Hexs s k)) (fun i => s.size - (intOf i).toNat)
  case atStart => exact ⟨0, Nat.zero_le _, rfl, hide (fun i _ h => by omega)⟩
  case round =>
    obtain ⟨k, hk, rfl, hdg⟩ := hrel
    by_cases hlt : k < s.size
    · have hltI : (k : Int) < s.size := by omega
      cases hd : hexB s[k] with
      | true =>
        have HS := hide (hexs_succ hdg.out hlt hd)
        have hx := nib_lt s[k]
        have hv := valV_hex hd
        clear hd
        generalize nib s[k] = x at *
        have hne : ((x : Int) == 16) = false := by rw [beq_eq_false_iff_ne]; omega
        have hne2 : (x == 16) = false := by rw [beq_eq_false_iff_ne]; omega
        go_wp2_with (go_at_call 53; refine (value_any _ _).mono ?_; rintro e w' ⟨rfl, rfl⟩; rw [hv])
        go_round
        case rel => exact ⟨k + 1, by omega, by go_num, HS⟩
        case measure => simp [intOf]; omega
      | false =>
        have HR := hide (hexR_bad s k hlt hd)
        have hv := valV_bad hd
        clear hd
        go_wp2_with (go_at_call 53; refine (value_any _ _).mono ?_; rintro e w' ⟨rfl, rfl⟩; rw [hv])
        go_ret2
        exact byts_nil HR.out (Only.refl _ _)
    · obtain rfl : k = s.size := by omega
      have hge0 : ¬ (s.size : Int) < s.size := by omega
      have HX := hide hdg.out
      by_cases hodd : s.size % 2 = 1
      · have HR := hide (hexR_odd hdg.out hodd)
        have ho2 : (((s.size : Int) % 2) == 1) = true := by rw [beq_iff_eq]; omega
        have ho3 : (((s.size : Int).tmod 2) == 1) = true := by rw [Int.tmod_eq_emod_of_nonneg (by omega)]; exact ho2
        clear hodd
        go_wp2_with fail
        go_ret2
        exact byts_nil HR.out (Only.refl _ _)
      · have HR := hide (hexR_even hdg.out (by omega))
        have ho2 : (((s.size : Int) % 2) == 1) = false := by rw [beq_eq_false_iff_ne]; omega
        have ho3 : (((s.size : Int).tmod 2) == 1) = false := by rw [Int.tmod_eq_emod_of_nonneg (by omega)]; exact ho2
        have HEV := hide (show s.size % 2 = 0 by omega)
        have HOW := hide (World.ownsRow_lit (base := w.heap.size) w #[] 0 (Nat.le_refl _) (by unfold maxLen; omega) (e := 5) (size := 1) (by simp))
        have HO := hide ((Only.refl [] w).alloc (.cells #[] 5))
        clear hodd
        go_wp2_with fail
        obtain ⟨w0, hw0⟩ : ∃ w0, w0 = w.alloc (.cells #[] 5) := ⟨_, rfl⟩
        rw [← hw0] at HOW HO ⊢
        clear hw0 ho2 ho3
        go_loopw [5, 6] (fun v i wr => ∃ j k : Nat, k ≤ s.size ∧ Hid (k = 2 * j) ∧ i = .int .i64 k ∧ Hid (wr.ownsRow w.heap.size 5 1 v j (ints .u8 (byts (hexP (s.data.toList.take k))))) ∧ Hid (Only [] w wr)) (fun _ i _ => s.size - (intOf i).toNat)
        case atStart => exact ⟨0, 0, Nat.zero_le _, hide rfl, rfl, HOW, HO⟩
        case round =>
          obtain ⟨j, k, hk, hkj, rfl, how, ho⟩ := hrel
          by_cases hlt : k < s.size
          · have hlt1 : k + 1 < s.size := by have := hkj.out; have := HEV.out; omega
            have hltI : (k : Int) < s.size := by omega
            have hlt1I : (k : Int) + 1 < s.size := by omega
            have hw1 : IntKind.i64.wrap ((k : Int) + 1) = (k : Int) + 1 := IntWalk.i64_in _ (by omega)
            have h0 : (0 : Int) ≤ (k : Int) + 1 := by omega
            have ht : ((k : Int) + 1).toNat = k + 1 := by omega
            have hx := valV_hex (HX.out k hlt hlt)
            have hy := valV_hex (HX.out (k + 1) hlt1 hlt1)
            obtain ⟨x, hxx⟩ : ∃ x, x = nib s[k] := ⟨_, rfl⟩
            obtain ⟨y, hyy⟩ : ∃ y, y = nib s[k + 1] := ⟨_, rfl⟩
            obtain ⟨z, hzz⟩ : ∃ z, z = 16 * x + y := ⟨_, rfl⟩
            have hx16 : x < 16 := by rw [hxx]; exact nib_lt _
            have hy16 : y < 16 := by rw [hyy]; exact nib_lt _
            have HZ := hide (show z = 16 * nib s[k] + nib s[k + 1] by rw [hzz, hxx, hyy])
            rw [← hxx] at hx
            rw [← hyy] at hy
            have hwm : IntKind.u8.wrap (16 * (x : Int)) = 16 * (x : Int) := by rw [IntKind.wrap_u8]; omega
            have hwu : IntKind.u8.wrap (16 * (x : Int) + (y : Int)) = (z : Int) := by rw [IntKind.wrap_u8]; omega
            obtain ⟨Av, cv, rfl, hjc, hcm⟩ := own_form how.out
            have hj : j < 1000000 := by have := hkj.out; omega
            clear hxx hyy hzz
            have HOW2 := hide (World.ownsRow.alloc (own_only how.out ((Only.refl [] wr).drew) (by simp)) (.cells #[.int .u8 (z : Int)] 5))
            have HO2 := hide (ho.out.drew.alloc (.cells #[.int .u8 (z : Int)] 5))
            have HRN := hide (reads_one wr.drew 5 (.int .u8 (z : Int)) (wr.heap.size + 1) (Nat.lt_succ_self _))
            have HSZ := hide ho.out.size
            have HSZ0 := hide HO.out.size
            go_upto_region 12 with (fail)
            go_region_held3 (fun _ => True) (exact trivial)
              (first
              | (go_at_call 53; refine (value_any _ _).mono ?_; rintro e w' ⟨rfl, rfl⟩; first | rw [hx] | rw [hy])
              | (refine step_append_any _ rfl (.tmp 29) (.tmp 41) 23 rfl w.heap.size 5 i0 (.int .u8 0) 1 1 Tryd.underlying23 hi hz0 hz1 hz2 rfl (by decide) _ j _ rfl HOW2.out _ _ 1 1 [.int .u8 (z : Int)] rfl HRN.out (by simp [Value.oneCell']) (by unfold maxLen; omega) (by omega) (by have := HSZ.out; simp; omega) ?_; intro v1 w3 hown1 hg1 _; have HOW3 := hide (one_hex hown1 hkj.out hlt1 HZ.out); have HO3 := hide (HO2.out.grown hg1 (fun j hj => .inr (own_block_ge HOW2.out hj))); clear hown1 hg1))
            all_goals
              go_wp2_with fail
              go_roundw
              case rel => exact ⟨j + 1, k + 2, by omega, hide (by have := hkj.out; omega), by go_num, HOW3, HO3⟩
              case measure => simp [intOf]; omega
          · obtain rfl : k = s.size := by omega
            have hge : ¬ (s.size : Int) < s.size := by omega
            have HRD := hide (rd_whole how.out)
            go_wp2_with fail
            go_ret2
            exact byts_some HR.out ho.out HRD.out
end
end Go.Proofs.YteoifokmbkpbnaaDoor

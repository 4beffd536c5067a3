/-
  Walks and plain words (texts Tm2, Tm3, Num1, Num2, Num3). No condition beyond those that each theorem states.
-/
import Derived.Deep.LoopGhost
import Derived.Laws.RangeAny
import Derived.ScopeJumps
import Derived.Test.YtcokjoidpnfjhaaGreatDoorA01
namespace Go.Proofs.YtcokjoidpnfjhaaGreatDoor
section
open Go.RowKit Go.Deep

def del (c : UInt8) : Bool := c == 44 || c == 41 || c == 40
/-- The end of the word that begins at p. -/
def wend (s : ByteArray) (p : Nat) : Nat := p + ((s.data.toList.drop p).takeWhile fun c => !del c).length
theorem drop_at (s : ByteArray) (p : Nat) (h : p < s.size) : s.data.toList.drop p = s[p] :: s.data.toList.drop (p + 1) := by
  rw [List.drop_eq_getElem_cons (by simpa using h)]; rfl
theorem wend_end (s : ByteArray) (p : Nat) (h : s.size ≤ p) : wend s p = p := by
  unfold wend; rw [List.drop_of_length_le (by simpa using h)]; simp
theorem wend_stop (s : ByteArray) (p : Nat) (h : p < s.size) (hd : del s[p] = true) : wend s p = p := by
  unfold wend; rw [drop_at s p h]; simp [hd]
theorem wend_step (s : ByteArray) (p : Nat) (h : p < s.size) (hd : del s[p] = false) : wend s (p + 1) = wend s p := by
  unfold wend; rw [drop_at s p h]; simp [hd]; omega
theorem wend_ge (s : ByteArray) (p : Nat) : p ≤ wend s p := Nat.le_add_right _ _
theorem wend_le (s : ByteArray) (p : Nat) (h : p ≤ s.size) : wend s p ≤ s.size := by
  unfold wend
  have h1 : ((s.data.toList.drop p).takeWhile fun c => !del c).length ≤ (s.data.toList.drop p).length := (List.takeWhile_sublist _).length_le
  have h2 : (s.data.toList.drop p).length = s.size - p := by rw [List.length_drop]; rfl
  omega

def peekV (s : ByteArray) (p : Nat) (c : Int) : Bool := if h : p < s.size then ((s[p].toNat : Int) == c) else false

set_option maxRecDepth 100000 in
set_option maxHeartbeats 1600000 in
theorem peek_any (w : World) (g : Nat) (s : ByteArray) (p : Nat) (c : Int) (hb : Blk w g 278 #[.string s, .int .i64 p]) (_hs : s.size ≤ maxLen) :
    Calls Tryz.prog 243 #[.pointer (some ⟨g, 0, none⟩), .int .u8 c] w fun e w' => e = .returned (.bool (peekV s p c)) ∧ ∃ n, w' = w.drewN n := by
  unfold maxLen at _hs
  have k0 := hb.cell 0
  have k1 := hb.cell 1
  simp at k0 k1
  clear hb
  by_cases hlt : p < s.size
  · have hlt' : (p : Int) < s.size := by omega
    have HV := hide (show peekV s p c = ((s[p].toNat : Int) == c) by unfold peekV; rw [dif_pos hlt])
    have hd : decide (p < s.size) = true := decide_eq_true hlt
    go_enter Tryz.func243, Tryz.ntmps243
    go_wp2_with fail
    go_quiet (fail)
    go_wp2_with fail
    go_ret
    exact ⟨(by rw [HV.out]; rfl), _, rfl⟩
  · have hlt' : ¬ (p : Int) < s.size := by omega
    have HV := hide (show peekV s p c = false by unfold peekV; rw [dif_neg hlt])
    have hd : decide (p < s.size) = false := decide_eq_false hlt
    go_enter Tryz.func243, Tryz.ntmps243
    go_wp2_with fail
    go_quiet (fail)
    go_wp2_with fail
    go_ret
    exact ⟨(by rw [HV.out]; rfl), _, rfl⟩

/-- The ending of a reader that meets no term. -/
def Fault (S : List Nat) (w : World) (e : Ending) (w' : World) : Prop := e = .panicked [{ v := .iface 281 (.agg #[]), recovered := false }] ∧ Only S w w'
/-- The reader stands at p. -/
def At (g : Nat) (s : ByteArray) (p : Nat) (w : World) : Prop := Blk w g 278 #[.string s, .int .i64 p]
def TakePost (g : Nat) (s : ByteArray) (p : Nat) (ok : Bool) (w : World) (e : Ending) (w' : World) : Prop :=
  if ok = true then e = .returned (.tuple #[]) ∧ At g s (p + 1) w' ∧ Only [g] w w' else Fault [g] w e w'

theorem take_no {g : Nat} {s : ByteArray} {p : Nat} {ok : Bool} {w w' : World} (h : ok = false) (ho : Only [g] w w') : TakePost g s p ok w (.panicked [{ v := .iface 281 (.agg #[]), recovered := false }]) w' := by
  subst h; exact ⟨rfl, ho⟩
theorem take_yes {g : Nat} {s : ByteArray} {p : Nat} {ok : Bool} {w w' : World} (h : ok = true) (hb : At g s (p + 1) w') (ho : Only [g] w w') : TakePost g s p ok w (.returned (.tuple #[])) w' := by
  subst h; exact ⟨rfl, hb, ho⟩
set_option maxRecDepth 100000 in
set_option maxHeartbeats 1600000 in
theorem take_any (w : World) (g : Nat) (s : ByteArray) (p : Nat) (c : Int) (hb : At g s p w) (hs : s.size ≤ maxLen) :
    Calls Tryz.prog 227 #[.pointer (some ⟨g, 0, none⟩), .int .u8 c] w (TakePost g s p (peekV s p c) w) := by
  unfold maxLen at hs
  have HB := hide hb
  have HO := hide (Only.refl [g] w)
  have k0 := hb.cell 0
  have k1 := hb.cell 1
  have f1 := hb.frozen 1
  simp at k0 k1
  clear hb
  by_cases hlt : p < s.size
  · have hlt' : ¬ (s.size : Int) ≤ p := by omega
    have hd : decide (s.size ≤ p) = false := decide_eq_false (by omega)
    cases hc : ((s[p].toNat : Int) == c) with
    | true =>
      have HV := hide (show peekV s p c = true by unfold peekV; rw [dif_pos hlt]; exact hc)
      have hn : ((s[p].toNat : Int) != c) = false := by simpa [bne] using hc
      go_enter Tryz.func227, Tryz.ntmps227
      go_wp2_with fail
      go_quiet (fail)
      go_wp2_with fail
      go_end0
      exact take_yes HV.out ((HB.out.drewN _).set_ 1 _) ((HO.out.drewN _).setCell (p := ⟨g, 1, none⟩) (.inl (by simp)) _)
    | false =>
      have HV := hide (show peekV s p c = false by unfold peekV; rw [dif_pos hlt]; exact hc)
      have hn : ((s[p].toNat : Int) != c) = true := by simpa [bne] using hc
      go_enter Tryz.func227, Tryz.ntmps227
      go_wp2_with fail
      go_quiet (fail)
      go_wp2_with fail
      exact ⟨rfl, take_no HV.out (HO.out.drewN _)⟩
  · have hlt' : (s.size : Int) ≤ p := by omega
    have hd : decide (s.size ≤ p) = true := decide_eq_true (by omega)
    have HV := hide (show peekV s p c = false by unfold peekV; rw [dif_neg hlt])
    go_enter Tryz.func227, Tryz.ntmps227
    go_wp2_with fail
    go_quiet (fail)
    go_wp2_with fail
    exact ⟨rfl, take_no HV.out (HO.out.drewN _)⟩
end
section
open Go.RowKit Go.Deep

def WordPost (g : Nat) (s : ByteArray) (p : Nat) (w : World) (e : Ending) (w' : World) : Prop :=
  e = .returned (.string (s.extract p (wend s p))) ∧ At g s (wend s p) w' ∧ Only [g] w w'

theorem byte_lt (c : UInt8) : c.toNat < 256 := c.toNat_lt
theorem ne_of_nat {c : UInt8} {n : Nat} (h : (c == UInt8.ofNat n) = false) (hn : n < 256) : ((c.toNat : Int) != n) = true := by
  have h1 : c.toNat ≠ n := by
    intro e
    subst e
    simp at h
  simp only [bne_iff_ne, ne_eq]
  omega
theorem del_false {c : UInt8} (h : del c = false) : ((c.toNat : Int) != 44) = true ∧ ((c.toNat : Int) != 41) = true ∧ ((c.toNat : Int) != 40) = true := by
  unfold del at h
  simp only [Bool.or_eq_false_iff] at h
  exact ⟨ne_of_nat (n := 44) h.1.1 (by decide), ne_of_nat (n := 41) h.1.2 (by decide), ne_of_nat (n := 40) h.2 (by decide)⟩
theorem del_true {c : UInt8} (h : del c = true) : ((c.toNat : Int) != 44) = false ∨ (((c.toNat : Int) != 44) = true ∧ ((c.toNat : Int) != 41) = false) ∨
    (((c.toNat : Int) != 44) = true ∧ ((c.toNat : Int) != 41) = true ∧ ((c.toNat : Int) != 40) = false) := by
  unfold del at h
  simp only [Bool.or_eq_true, beq_iff_eq] at h
  rcases h with (h | h) | h
  · subst h; exact .inl rfl
  · subst h; exact .inr (.inl ⟨rfl, rfl⟩)
  · subst h; exact .inr (.inr ⟨rfl, rfl, rfl⟩)
theorem word_end {g : Nat} {s : ByteArray} {p j : Nat} {w w' : World} (h : wend s p = j) (hb : At g s j w') (ho : Only [g] w w') : WordPost g s p w (.returned (.string (s.extract p j))) w' := by
  subst h; exact ⟨rfl, hb, ho⟩

set_option maxRecDepth 100000 in
set_option maxHeartbeats 3200000 in
theorem word_any (w : World) (g : Nat) (s : ByteArray) (p : Nat) (hb : At g s p w) (hp : p ≤ s.size) (hs : s.size ≤ maxLen) :
    Calls Tryz.prog 226 #[.pointer (some ⟨g, 0, none⟩)] w (WordPost g s p w) := by
  unfold maxLen at hs
  have HB := hide hb
  have k0 := hb.cell 0
  have k1 := hb.cell 1
  simp at k0 k1
  clear hb
  go_enter Tryz.func226, Tryz.ntmps226
  go_wp2_with fail
  clear k0 k1
  go_loopg [] (s.size - p) (fun gk wr => ∃ j : Nat, p ≤ j ∧ j ≤ s.size ∧ gk + j = s.size ∧ Hid (wend s j = wend s p) ∧ Hid (At g s j wr) ∧ Hid (Only [g] w wr))
  case atStart => exact ⟨p, Nat.le_refl _, hp, by omega, hide rfl, HB, hide (Only.refl _ _)⟩
  case round =>
    obtain ⟨j, hpj, hj, hgk, hw, HA, HO⟩ := hrel
    have k0 := HA.out.cell 0
    have k1 := HA.out.cell 1
    have f1 := HA.out.frozen 1
    simp at k0 k1
    have HG := hide hgk
    clear hgk
    by_cases hlt : j < s.size
    · have hlt' : (j : Int) < s.size := by omega
      have hd : decide (j < s.size) = true := decide_eq_true hlt
      cases hc : del s[j] with
      | false =>
        have HS := hide (wend_step s j hlt hc)
        obtain ⟨h1, h2, h3⟩ := del_false hc
        clear hc
        go_wp2_with fail
        go_quiet (fail)
        go_wp2_with fail
        go_roundg (gk - 1)
        case rel => exact ⟨j + 1, by omega, by omega, by have := HG.out; omega, hide (HS.out.trans hw.out), hide (HA.out.drewN _ |>.set_ 1 _), hide ((HO.out.drewN _).setCell (p := ⟨g, 1, none⟩) (.inl (by simp)) _)⟩
        case measure => have := HG.out; omega
      | true =>
        have HS := hide ((wend_stop s j hlt hc).symm.trans hw.out).symm
        rcases del_true hc with h1 | ⟨h1, h2⟩ | ⟨h1, h2, h3⟩
        all_goals
          clear hc
          go_wp2_with fail
          go_quiet (fail)
          go_wp2_with fail
          go_quiet (fail)
          go_wp2_with fail
          go_ret
          exact word_end HS.out ((HA.out.drewN _).drewN _) ((HO.out.drewN _).drewN _)
    · have hlt' : ¬ (j : Int) < s.size := by omega
      have hd : decide (j < s.size) = false := decide_eq_false hlt
      have HS := hide ((wend_end s j (by omega)).symm.trans hw.out).symm
      go_wp2_with fail
      go_quiet (fail)
      go_wp2_with fail
      go_quiet (fail)
      go_wp2_with fail
      go_ret
      exact word_end HS.out ((HA.out.drewN _).drewN _) ((HO.out.drewN _).drewN _)
end
section
open Go.RowKit Go.Deep

def digB (c : UInt8) : Bool := decide (48 ≤ c.toNat) && decide (c.toNat ≤ 57)
/-- On from u, digit by digit; none: too great. -/
def accN : List UInt8 → Nat → Option Nat
  | [], u => some u
  | c :: r, u => if 1844674407370955161 < u ∨ (u = 1844674407370955161 ∧ 5 < c.toNat - 48) then none else accN r (u * 10 + (c.toNat - 48))
/-- The number and the code of a text. -/
def numR (l : List UInt8) : Nat × Nat :=
  if l = [] then (0, 3) else if l.all digB = false then (0, 3) else if l.head? = some 48 ∧ 1 < l.length then (0, 3) else
    match accN l 0 with
    | none => (0, 5)
    | some u => (u, 0)
theorem accN_lt : ∀ (l : List UInt8) (u v : Nat), l.all digB = true → u < 18446744073709551616 → accN l u = some v → v < 18446744073709551616
  | [], u, v, _, hu, h => by simp [accN] at h; omega
  | c :: r, u, v, hd, hu, h => by
    rw [accN] at h
    split at h
    · cases h
    · rename_i hn
      simp only [List.all_cons, Bool.and_eq_true] at hd
      have h2 := hd.1
      unfold digB at h2
      simp only [Bool.and_eq_true, decide_eq_true_eq] at h2
      exact accN_lt r _ v hd.2 (by omega) h
theorem numR_lt (l : List UInt8) : (numR l).1 < 18446744073709551616 := by
  unfold numR
  split
  · decide
  · split
    · decide
    · split
      · decide
      · rename_i h1 h2 h3
        split
        · decide
        · rename_i u hu
          exact accN_lt l 0 u (by simpa using h2) (by decide) hu
def NumRPost (r : Nat × Nat) (w : World) (e : Ending) (w' : World) : Prop := e = .returned (.tuple #[.int .u64 r.1, .int .i64 r.2]) ∧ Only [] w w'
theorem numr {a b : Nat} {r : Nat × Nat} {w w' : World} (h : r = (a, b)) (ho : Only [] w w') : NumRPost r w (.returned (.tuple #[.int .u64 a, .int .i64 b])) w' := by
  subst h; exact ⟨rfl, ho⟩
theorem only_iter (w : World) (s : ByteArray) (p : Nat) : Only [] w (w.iter s p) := (Only.refl [] w).alloc _
theorem all_false (l : List UInt8) (i : Nat) (h : i < l.length) (hd : digB l[i] = false) : l.all digB = false := by
  rw [List.all_eq_false]
  exact ⟨l[i], List.getElem_mem h, by simp [hd]⟩
theorem all_true (l : List UInt8) (h : ∀ i (hi : i < l.length), digB l[i] = true) : l.all digB = true := by
  rw [List.all_eq_true]
  intro x hx
  obtain ⟨i, hi, rfl⟩ := List.getElem_of_mem hx
  exact h i hi
theorem empty_of (s : ByteArray) (h : s.size = 0) : s.data.toList = [] := by
  rw [List.eq_nil_iff_length_eq_zero, Array.length_toList]; exact h
theorem not_empty (s : ByteArray) (h : 0 < s.size) : s.data.toList ≠ [] := by
  intro e
  have : s.data.toList.length = 0 := by rw [e]; rfl
  rw [Array.length_toList] at this
  have h2 : s.data.size = s.size := rfl
  omega
theorem numR_empty (s : ByteArray) (h : s.size = 0) : numR s.data.toList = (0, 3) := by unfold numR; rw [if_pos (empty_of s h)]
theorem numR_bad (s : ByteArray) (i : Nat) (h : i < s.size) (hd : digB s[i] = false) : numR s.data.toList = (0, 3) := by
  unfold numR; rw [if_neg (not_empty s (by omega)), if_pos (all_false _ i (by simpa using h) hd)]
theorem numR_lead (s : ByteArray) (h : 1 < s.size) (hd : s[0].toNat = 48) : numR s.data.toList = (0, 3) := by
  have hl : s.data.toList.length = s.size := rfl
  have hh : s.data.toList.head? = some 48 := by
    rw [List.head?_eq_getElem?, List.getElem?_eq_getElem (by omega)]
    congr 1
    exact UInt8.toNat_inj.1 hd
  unfold numR
  split
  · rfl
  · split
    · rfl
    · rw [if_pos ⟨hh, by omega⟩]
theorem numR_go (s : ByteArray) (h : 0 < s.size) (hd : s.data.toList.all digB = true) (h0 : ¬ (s[0].toNat = 48 ∧ 1 < s.size)) :
    numR s.data.toList = match accN s.data.toList 0 with | none => (0, 5) | some u => (u, 0) := by
  have hl : s.data.toList.length = s.size := rfl
  unfold numR
  rw [if_neg (not_empty s h), if_neg (by simp [hd]), if_neg]
  rintro ⟨a, b⟩
  refine h0 ⟨?_, by omega⟩
  rw [List.head?_eq_getElem?, List.getElem?_eq_getElem (by omega)] at a
  simp only [Option.some.injEq] at a
  have : s[0] = 48 := a
  rw [this]
  rfl
end
section
open Go.RowKit Go.Deep

/-- All signs before k are digits. -/
def Digs (s : ByteArray) (k : Nat) : Prop := ∀ i (h : i < s.size), i < k → digB s[i] = true
def ReadLoop (w : World) (s : ByteArray) (a' : Act) (w' : World) : Prop :=
  ∃ (K U : Int) (u1 u2 u3 u4 u5 u8 u9 u10 u11 u12 u13 u14 u15 u16 u17 u18 u19 u20 u21 u22 u23 u24 u25 u26 u27 u28 u29 u30 u31 u32 u33 u34 u35 u36 u37 u38 u39 u40 u41 u42 u43 u44 u45 u46 u47 u48 u49 u50 u51 u52 u53 u54 u55 : Value), a' = ⟨#[.string s, u1, u2, u3, u4, u5, .int .u64 U, .int .i64 K, u8, u9, u10, u11, u12, u13, u14, u15, u16, u17, u18, u19, u20, u21, u22, u23, u24, u25, u26, u27, u28, u29, u30, u31, u32, u33, u34, u35, u36, u37, u38, u39, u40, u41, u42, u43, u44, u45, u46, u47, u48, u49, u50, u51, u52, u53, u54, u55], []⟩ ∧ w' = w.iter s s.size ∧ ∃ k u : Nat, K = k ∧ U = u ∧ k ≤ s.size ∧ u < 18446744073709551616 ∧ Digs s s.size ∧ ¬ (1 < s.size ∧ s.data.toList.head? = some 48) ∧ accN (s.data.toList.drop k) u = accN s.data.toList 0

theorem toList_e (s : ByteArray) (h : s.size = 0) : s.toList.isEmpty = true := by rw [ByteArray.toList_eq, empty_of s h]; rfl
theorem toList_n (s : ByteArray) (h : 0 < s.size) : s.toList.isEmpty = false := by
  rw [ByteArray.toList_eq]
  cases hl : s.data.toList with
  | nil => exact absurd hl (not_empty s h)
  | cons _ _ => rfl
set_option maxRecDepth 100000 in
set_option maxHeartbeats 3200000 in
theorem num_read_empty (w : World) (s : ByteArray) (h0 : s.size = 0) :
    Calls Tryz.prog 241 #[.string s] w (NumRPost (numR s.data.toList) w) := by
  have HR := hide (numR_empty s h0)
  have he2 := toList_e s h0
  clear h0
  go_enter Tryz.func241, Tryz.ntmps241
  go_wp2_with fail
  refine wp_scope_jumps 0 (fun _ _ => False) (fun _ _ => 0) rfl ?_ ?_
  · go_wp2_with fail
    simp only [Exit.jump]
    refine bodyPost_ret (results_tmp2 rfl _ _ _) rfl ?_
    exact numr HR.out (Only.refl _ _)
  · intro a' w' h
    cases h
theorem digs_succ {s : ByteArray} {k : Nat} (h : Digs s k) (hk : k < s.size) (hd : digB s[k] = true) : Digs s (k + 1) := by
  intro i hi hik
  by_cases e : i = k
  · subst e; exact hd
  · exact h i hi (by omega)

theorem head_of {s : ByteArray} (hp : 0 < s.size) (h : ¬ (s[0].toNat = 48 ∧ 1 < s.size)) : ¬ (1 < s.size ∧ s.data.toList.head? = some 48) := by
  rintro ⟨a, b⟩
  refine h ⟨?_, a⟩
  rw [List.head?_eq_getElem?, List.getElem?_eq_getElem (by simpa using hp)] at b
  simp only [Option.some.injEq] at b
  have : s[0] = 48 := b
  rw [this]
  rfl
theorem of_head {s : ByteArray} (hp : 0 < s.size) (h : ¬ (1 < s.size ∧ s.data.toList.head? = some 48)) : ¬ (s[0].toNat = 48 ∧ 1 < s.size) := by
  rintro ⟨a, b⟩
  refine h ⟨b, ?_⟩
  rw [List.head?_eq_getElem?, List.getElem?_eq_getElem (by simpa using hp)]
  congr 1
  exact UInt8.toNat_inj.1 a
theorem decode_dig (s : ByteArray) (k : Nat) (h : k < s.size) (hd : digB s[k] = true) : Utf8.decode s k = (s[k].toNat, 1) := by
  refine decode_ascii s k h ?_
  simp [digB] at hd
  omega
theorem decode_bad (s : ByteArray) (k : Nat) (h : k < s.size) (hd : digB s[k] = false) : (Utf8.decode s k).1 < 48 ∨ 57 < (Utf8.decode s k).1 := by
  by_cases ha : s[k].toNat < 128
  · rw [decode_ascii s k h ha]
    simp [digB] at hd
    simp only
    omega
  · have := (decode_high s k h (by omega)).1
    omega

set_option maxRecDepth 100000 in
set_option maxHeartbeats 6400000 in
theorem num_read_some (w : World) (s : ByteArray) (hs : s.size ≤ maxLen) (hpos : 0 < s.size) :
    Calls Tryz.prog 241 #[.string s] w (NumRPost (numR s.data.toList) w) := by
  unfold maxLen at hs
  have he2 := toList_n s hpos
  go_enter Tryz.func241, Tryz.ntmps241
  go_wp2_with fail
  refine wp_scope_jumps 0 (ReadLoop w s) (fun a' _ => s.size - (intOf (a'.tmps.getD 7 undef)).toNat) rfl ?_ ?_
  · go_wp2_with fail
    go_loopg [5] s.size (fun gk r wr => ∃ k : Nat, k ≤ s.size ∧ gk + k = s.size ∧ Hid (Digs s k) ∧ wr = w.iter s k)
    case atStart => exact ⟨0, Nat.zero_le _, by omega, hide (fun i _ h => by omega), rfl⟩
    case round =>
      obtain ⟨k, hk, hgk, hdg, rfl⟩ := hrel
      have HG := hide hgk
      clear hgk
      by_cases hlt : k < s.size
      · have hnx : ∀ ty, (Instr.next (.pointer (some ⟨w.heap.size, 0, none⟩)) true ty).run Tryz.prog (w.iter s k) = _ := fun ty => run_next_any w s k ty hlt
        cases hd : digB s[k] with
        | true =>
          rw [decode_dig s k hlt hd] at hnx
          have hc1 : 48 ≤ s[k].toNat := by simp [digB] at hd; omega
          have hc2 : s[k].toNat ≤ 57 := by simp [digB] at hd; omega
          have hc1' : (48 : Int) ≤ s[k].toNat := by omega
          have hc2' : (s[k].toNat : Int) ≤ 57 := by omega
          have HS := hide (digs_succ hdg.out hlt hd)
          clear hd
          go_wp2_with fail
          go_roundg (gk - 1)
          case rel => exact ⟨k + 1, by omega, by have := HG.out; omega, HS, rfl⟩
          case measure => have := HG.out; omega
        | false =>
          have hb := decode_bad s k hlt hd
          have HR := hide (numR_bad s k hlt hd)
          have hr := decode_le s k
          clear hd
          generalize Utf8.decode s k = d at *
          obtain ⟨r, n⟩ := d
          simp only at hb hr hnx
          rcases hb with hb | hb
          · have hb' : (r : Int) < 48 := by omega
            go_wp2_with fail
            simp only [Exit.jump]
            refine bodyPost_ret (results_tmp2 rfl _ _ _) rfl ?_
            exact numr HR.out (only_iter w s _)
          · have hb' : (57 : Int) < r := by omega
            have hb2 : ¬ (r : Int) < 48 := by omega
            go_wp2_with fail
            simp only [Exit.jump]
            refine bodyPost_ret (results_tmp2 rfl _ _ _) rfl ?_
            exact numr HR.out (only_iter w s _)
      · obtain rfl : k = s.size := by omega
        have hnx : ∀ ty, (Instr.next (.pointer (some ⟨w.heap.size, 0, none⟩)) true ty).run Tryz.prog (w.iter s s.size) = _ := fun ty => run_next_end w s s.size ty hlt
        have HALL := hide (all_true s.data.toList fun i hi => hdg.out i (by simpa using hi) (by simpa using hi))
        by_cases hlead : s[0].toNat = 48 ∧ 1 < s.size
        · obtain ⟨h1, h2⟩ := hlead
          have HR := hide (numR_lead s h2 h1)
          have h1' : ((s[0].toNat : Int) == 48) = true := by rw [beq_iff_eq]; omega
          have h2' : (1 : Int) < s.size := by omega
          clear h1
          go_wp2_with fail
          simp only [Exit.jump]
          refine bodyPost_ret (results_tmp2 rfl _ _ _) rfl ?_
          exact numr HR.out (only_iter w s _)
        · have HGO := hide (numR_go s hpos HALL.out hlead)
          have HDG := hide hdg.out
          have HLD := hide (head_of hpos hlead)
          have HACC := hide (show accN (s.data.toList.drop 0) 0 = accN s.data.toList 0 from rfl)
          have hlt0 : 0 < s.size := hpos
          have hltI : (0 : Int) < s.size := by omega
          have hb2 : ((0 : Int) == (s.size : Int)) = false := by rw [beq_eq_false_iff_ne]; omega
          have HDR := hide (drop_at s 0 hpos)
          have HC := hdg.out 0 hpos hpos
          have hc1 : 48 ≤ s[0].toNat := by simp [digB] at HC; omega
          have hc2 : s[0].toNat ≤ 57 := by simp [digB] at HC; omega
          have hc1' : (48 : Int) ≤ s[0].toNat := by omega
          have hc2' : (s[0].toNat : Int) ≤ 57 := by omega
          have HN := hide (show accN (s.data.toList.drop (0 + 1)) (s[0].toNat - 48) = accN s.data.toList 0 from by rw [← HACC.out, HDR.out, accN, if_neg (by omega)]; simp only [Nat.zero_mul, Nat.zero_add])
          clear HC
          by_cases h1 : s[0].toNat = 48
          · have h1' : ((s[0].toNat : Int) == 48) = true := by rw [beq_iff_eq]; omega
            have h2' : ¬ (1 : Int) < s.size := by omega
            clear h1 hlead
            go_wp2_with fail
            go_step3
            go_wp2_with fail
            go_step3
            exact ⟨rfl, _, _, _, _, _, _, _, _, _, _, _, _, _, _, _, _, _, _, _, _, _, _, _, _, _, _, _, _, _, _, _, _, _, _, _, _, _, _, _, _, _, _, _, _, _, _, _, _, _, _, _, _, _, _, _, rfl, rfl, 1, s[0].toNat - 48, by omega, by omega, by omega, by omega, HDG.out, HLD.out, HN.out⟩
          · have h1' : ((s[0].toNat : Int) == 48) = false := by rw [beq_eq_false_iff_ne]; omega
            clear h1 hlead
            go_wp2_with fail
            go_step3
            go_wp2_with fail
            go_step3
            exact ⟨rfl, _, _, _, _, _, _, _, _, _, _, _, _, _, _, _, _, _, _, _, _, _, _, _, _, _, _, _, _, _, _, _, _, _, _, _, _, _, _, _, _, _, _, _, _, _, _, _, _, _, _, _, _, _, _, _, rfl, rfl, 1, s[0].toNat - 48, by omega, by omega, by omega, by omega, HDG.out, HLD.out, HN.out⟩
  · rintro a' w' ⟨K, U, u1, u2, u3, u4, u5, u8, u9, u10, u11, u12, u13, u14, u15, u16, u17, u18, u19, u20, u21, u22, u23, u24, u25, u26, u27, u28, u29, u30, u31, u32, u33, u34, u35, u36, u37, u38, u39, u40, u41, u42, u43, u44, u45, u46, u47, u48, u49, u50, u51, u52, u53, u54, u55, rfl, rfl, k, u, rfl, rfl, hk, hu, hdg, hld, hacc⟩
    have HDG := hide hdg
    have HLD := hide hld
    have HACC := hide hacc
    have HALL := hide hdg
    have HGO := hide (numR_go s hpos (all_true s.data.toList fun i hi => hdg i (by simpa using hi) (by simpa using hi)) (of_head hpos hld))
    clear hdg hld hacc
    by_cases hke : k = s.size
    · have HR := hide (show numR s.data.toList = (u, 0) from by rw [HGO.out, ← HACC.out, hke, show List.drop s.size s.data.toList = [] from List.drop_of_length_le (Nat.le_of_eq rfl)]; rfl)
      have hb2 : ((k : Int) == (s.size : Int)) = true := by rw [beq_iff_eq]; omega
      clear hke
      go_wp2_with fail
      simp only [Exit.jump]
      refine bodyPost_ret (results_tmp2 rfl _ _ _) rfl ?_
      exact numr HR.out (only_iter w s s.size)
    · have hlt : k < s.size := by omega
      have hlt' : (k : Int) < s.size := by omega
      have hb2 : ((k : Int) == (s.size : Int)) = false := by rw [beq_eq_false_iff_ne]; omega
      have HDR := hide (drop_at s k hlt)
      have HC := HALL.out k hlt hlt
      have hc1 : 48 ≤ s[k].toNat := by simp [digB] at HC; omega
      have hc2 : s[k].toNat ≤ 57 := by simp [digB] at HC; omega
      have hc1' : (48 : Int) ≤ s[k].toNat := by omega
      have hc2' : (s[k].toNat : Int) ≤ 57 := by omega
      clear HC hke
      by_cases h1 : 1844674407370955161 < u
      · have HR := hide (show numR s.data.toList = (0, 5) from by rw [HGO.out, ← HACC.out, HDR.out, accN, if_pos (.inl h1)])
        have h1' : (1844674407370955161 : Int) < u := by omega
        clear h1
        go_wp2_with fail
        simp only [Exit.jump]
        refine bodyPost_ret (results_tmp2 rfl _ _ _) rfl ?_
        exact numr HR.out (only_iter w s s.size)
      · have h1' : ¬ (1844674407370955161 : Int) < u := by omega
        by_cases h2 : u = 1844674407370955161
        · have HU := hide h2
          have h2' : ((u : Int) == 1844674407370955161) = true := by rw [beq_iff_eq]; omega
          by_cases h3 : 53 < s[k].toNat
          · have HR := hide (show numR s.data.toList = (0, 5) from by rw [HGO.out, ← HACC.out, HDR.out, accN, if_pos (.inr ⟨HU.out, by omega⟩)])
            have h3' : (5 : Int) < s[k].toNat - 48 := by omega
            clear h1 h2 h3
            go_wp2_with fail
            simp only [Exit.jump]
            refine bodyPost_ret (results_tmp2 rfl _ _ _) rfl ?_
            exact numr HR.out (only_iter w s s.size)
          · have HN := hide (show accN (s.data.toList.drop (k + 1)) (u * 10 + (s[k].toNat - 48)) = accN s.data.toList 0 from by rw [← HACC.out, HDR.out, accN, if_neg (by omega)])
            have h3' : ¬ (5 : Int) < s[k].toNat - 48 := by omega
            have hlim : u * 10 + (s[k].toNat - 48) < 18446744073709551616 := by omega
            clear h1 h2 h3
            go_wp2_with fail
            go_step3
            refine ⟨rfl, ⟨_, _, _, _, _, _, _, _, _, _, _, _, _, _, _, _, _, _, _, _, _, _, _, _, _, _, _, _, _, _, _, _, _, _, _, _, _, _, _, _, _, _, _, _, _, _, _, _, _, _, _, _, _, _, _, rfl, rfl, k + 1, u * 10 + (s[k].toNat - 48), by omega, by omega, by omega, hlim, HDG.out, HLD.out, HN.out⟩, ?_⟩
            simp [intOf]
            omega
        · have HN := hide (show accN (s.data.toList.drop (k + 1)) (u * 10 + (s[k].toNat - 48)) = accN s.data.toList 0 from by rw [← HACC.out, HDR.out, accN, if_neg (by omega)])
          have h2' : ((u : Int) == 1844674407370955161) = false := by rw [beq_eq_false_iff_ne]; omega
          have hlim : u * 10 + (s[k].toNat - 48) < 18446744073709551616 := by omega
          have hu1 : (u : Int) ≤ 1844674407370955160 := by omega
          clear h1 h2
          go_wp2_with fail
          go_step3
          refine ⟨rfl, ⟨_, _, _, _, _, _, _, _, _, _, _, _, _, _, _, _, _, _, _, _, _, _, _, _, _, _, _, _, _, _, _, _, _, _, _, _, _, _, _, _, _, _, _, _, _, _, _, _, _, _, _, _, _, _, _, rfl, rfl, k + 1, u * 10 + (s[k].toNat - 48), by omega, by omega, by omega, hlim, HDG.out, HLD.out, HN.out⟩, ?_⟩
          simp [intOf]
          omega
end
section
open Go.RowKit Go.Deep

theorem num_read (w : World) (s : ByteArray) (hs : s.size ≤ 1000000) : Calls Tryz.prog 241 #[.string s] w (NumRPost (numR s.data.toList) w) := by
  rcases Nat.eq_zero_or_pos s.size with h | h
  · exact num_read_empty w s h
  · exact num_read_some w s (by unfold maxLen; omega) h

def hexB (c : UInt8) : Bool := decide (0 ≤ signV c.toNat)
def nib (c : UInt8) : Nat := (signV c.toNat).toNat
def hexP : List UInt8 → List UInt8
  | a :: b :: r => UInt8.ofNat (16 * nib a + nib b) :: hexP r
  | _ => []
def hexR (l : List UInt8) : List UInt8 × Nat := if l.all hexB = false then ([], 3) else if l.length % 2 = 1 then ([], 4) else (hexP l, 0)
theorem nib_lt (c : UInt8) : nib c < 16 := by unfold nib signV; split <;> (try split) <;> omega
theorem sign_nib {c : UInt8} (h : hexB c = true) : signV c.toNat = (nib c : Nat) := by
  unfold hexB at h
  unfold nib
  have := of_decide_eq_true h
  omega
theorem sign_low {r : Int} (h : 0 ≤ signV r) : 48 ≤ r ∧ r ≤ 102 := by unfold signV at h; split at h <;> (try split at h) <;> omega
def Hexs (s : ByteArray) (k : Nat) : Prop := ∀ i (h : i < s.size), i < k → hexB s[i] = true
theorem hexs_succ {s : ByteArray} {k : Nat} (h : Hexs s k) (hk : k < s.size) (hd : hexB s[k] = true) : Hexs s (k + 1) := by
  intro i hi hik
  by_cases e : i = k
  · subst e; exact hd
  · exact h i hi (by omega)
theorem decode_hex (s : ByteArray) (k : Nat) (h : k < s.size) (hd : hexB s[k] = true) : Utf8.decode s k = (s[k].toNat, 1) := by
  refine decode_ascii s k h ?_
  have := sign_low (of_decide_eq_true hd)
  omega
theorem decode_nohex (s : ByteArray) (k : Nat) (h : k < s.size) (hd : hexB s[k] = false) : signV (Utf8.decode s k).1 < 0 := by
  by_cases ha : s[k].toNat < 128
  · rw [decode_ascii s k h ha]
    have := of_decide_eq_false hd
    simp only
    omega
  · have h1 := (decode_high s k h (by omega)).1
    by_cases h2 : 0 ≤ signV (Utf8.decode s k).1
    · have := sign_low h2
      omega
    · omega
theorem hexR_bad (s : ByteArray) (i : Nat) (h : i < s.size) (hd : hexB s[i] = false) : hexR s.data.toList = ([], 3) := by
  unfold hexR
  rw [if_pos]
  rw [List.all_eq_false]
  exact ⟨s[i], (by rw [Array.mem_toList_iff]; exact Array.getElem_mem (by simpa using h)), by simp [hd]⟩
theorem hexs_all {s : ByteArray} (h : Hexs s s.size) : s.data.toList.all hexB = true := by
  rw [List.all_eq_true]
  intro x hx
  obtain ⟨i, hi, rfl⟩ := List.getElem_of_mem hx
  exact h i (by simpa using hi) (by simpa using hi)
theorem hexR_odd {s : ByteArray} (h : Hexs s s.size) (ho : s.size % 2 = 1) : hexR s.data.toList = ([], 4) := by
  unfold hexR
  rw [if_neg (by rw [hexs_all h]; simp), if_pos (by rw [Array.length_toList]; exact ho)]
theorem hexR_even {s : ByteArray} (h : Hexs s s.size) (ho : s.size % 2 = 0) : hexR s.data.toList = (hexP s.data.toList, 0) := by
  unfold hexR
  rw [if_neg (by rw [hexs_all h]; simp), if_neg (by rw [Array.length_toList]; show ¬ s.size % 2 = 1; omega)]
theorem hexP_append : ∀ (l m : List UInt8), l.length % 2 = 0 → hexP (l ++ m) = hexP l ++ hexP m
  | [], m, _ => rfl
  | [a], m, h => by simp at h
  | a :: b :: r, m, h => by
    simp only [List.cons_append, hexP]
    rw [hexP_append r m (by simp at h; omega)]
theorem hexP_take (s : ByteArray) (j : Nat) (h : 2 * j + 1 < s.size) : hexP (s.data.toList.take (2 * (j + 1))) = hexP (s.data.toList.take (2 * j)) ++ [UInt8.ofNat (16 * nib s[2 * j] + nib s[2 * j + 1])] := by
  have hl : s.data.toList.length = s.size := rfl
  have e : s.data.toList.take (2 * (j + 1)) = s.data.toList.take (2 * j) ++ [s[2 * j], s[2 * j + 1]] := by
    rw [show 2 * (j + 1) = 2 * j + 1 + 1 by omega, List.take_succ_eq_append_getElem (by omega), List.take_succ_eq_append_getElem (by omega), List.append_assoc]
    rfl
  rw [e, hexP_append _ _ (by rw [List.length_take]; omega)]
  rfl
/-- Handed back: bytes in a slice of the call's own, and a code. -/
def BytsPost (r : List UInt8 × Nat) (w : World) (e : Ending) (w' : World) : Prop :=
  ∃ v, e = .returned (.tuple #[v, .int .i64 r.2]) ∧ Only [] w w' ∧ ∀ N : List Nat, (∀ x ∈ N, x < w.heap.size) → Rd w' N v (ints .u8 (byts r.1))
theorem byts_nil {r : List UInt8 × Nat} {c : Nat} {w w' : World} (h : r = ([], c)) (ho : Only [] w w') : BytsPost r w (.returned (.tuple #[.slice none 0 0, .int .i64 c])) w' := by
  subst h; exact ⟨_, rfl, ho, fun N _ => Rd.nil w' N⟩
end
end Go.Proofs.YtcokjoidpnfjhaaGreatDoor

/-
  Contracts of term's small functions (kindOf, numbered, allowed, arity, fits) and num's sign: each hands back a number or a bool and leaves the world. No condition.
  The reader of terms: word, take, peek, number, by contracts on the reader's block. Condition: the block is known whole, the text is no longer than a slice may be.
  The reader's word: what stands up to a comma, a bracket, or the end. Condition: the reader's block is known whole, the text is no longer than a slice may be.
-/
import Derived.Test.YtfmfnfmhknlpbaaChecked
import Derived.Test.YtfmfnfmhknlpbaaZA
import Derived.Deep.LoopGhost
namespace Go.Proofs.Ytfmfnfmhknlpbaa
open Go.RowKit

def kindV (c : Int) : Int :=
  if c = 48 then 1 else if c = 97 then 2 else if c = 110 then 3 else if c = 120 then 4 else if c = 112 then 5 else if c = 100 then 6
  else if c = 104 then 7 else if c = 107 then 8 else if c = 109 then 9 else if c = 115 then 10 else if c = 108 then 11 else 0
set_option maxHeartbeats 1600000 in
theorem kindOf_any (c : Int) (w : World) : Calls Try.prog 94 #[.int .u8 c] w fun e w' => e = .returned (.int .i64 (kindV c)) ∧ w = w' := by
  go_enter Try.func94, Try.ntmps94
  go_wp2
  all_goals
    go_ret
    exact ⟨by simp_all [kindV], rfl⟩

def numberedV (k : Int) : Bool := (k == 2) || (k == 3) || (k == 8) || (k == 10)
set_option maxHeartbeats 1600000 in
theorem numbered_any (k : Int) (w : World) : Calls Try.prog 99 #[.int .i64 k] w fun e w' => e = .returned (.bool (numberedV k)) ∧ w = w' := by
  go_enter Try.func99, Try.ntmps99
  go_wp2
  all_goals
    go_ret
    exact ⟨by simp_all [numberedV], rfl⟩

def allowedV (k n : Int) : Bool := if k = 2 then decide (n ≤ 4294967295) else if k = 8 then decide (1 ≤ n ∧ n ≤ 3) else true
set_option maxHeartbeats 1600000 in
theorem allowed_any (k n : Int) (w : World) : Calls Try.prog 109 #[.int .i64 k, .int .u64 n] w fun e w' => e = .returned (.bool (allowedV k n)) ∧ w = w' := by
  go_enter Try.func109, Try.ntmps109
  go_wp2
  all_goals
    go_ret
    exact ⟨by first | (simp_all [allowedV]; done) | (simp_all [allowedV]; omega), rfl⟩

def leastV (k : Int) : Int := if k = 5 then 1 else if k = 6 ∨ k = 8 ∨ k = 9 then 2 else if k = 10 then 3 else if k = 7 then 1 else 0
def mostV (k : Int) : Int := if k = 5 then 1 else if k = 6 ∨ k = 8 ∨ k = 9 then 2 else if k = 10 then 3 else if k = 7 then -1 else if k = 11 then -1 else 0
set_option maxHeartbeats 1600000 in
theorem arity_any (k : Int) (w : World) : Calls Try.prog 115 #[.int .i64 k] w fun e w' => e = .returned (.tuple #[.int .i64 (leastV k), .int .i64 (mostV k)]) ∧ w = w' := by
  go_enter Try.func115, Try.ntmps115
  go_wp2
  all_goals
    go_ret2
    exact ⟨by simp_all [leastV, mostV], rfl⟩

def fitsV (k c : Int) : Bool := decide (leastV k ≤ c) && (decide (mostV k < 0) || decide (c ≤ mostV k))
set_option maxHeartbeats 1600000 in
theorem fits_any (k c : Int) (w : World) : Calls Try.prog 112 #[.int .i64 k, .int .i64 c] w fun e w' => e = .returned (.bool (fitsV k c)) ∧ w = w' := by
  go_enter Try.func112, Try.ntmps112
  go_wp2_with (go_at_call 115; refine (arity_any _ _).mono ?_; rintro e w' ⟨rfl, rfl⟩)
  all_goals
    go_ret
    exact ⟨by first | (simp_all [fitsV]; done) | (simp_all [fitsV]; omega), rfl⟩

def signV (r : Int) : Int := if 48 ≤ r ∧ r ≤ 57 then r - 48 else if 97 ≤ r ∧ r ≤ 102 then r - 87 else -1
set_option maxHeartbeats 1600000 in
theorem sign_any (r : Int) (w : World) : Calls Try.prog 110 #[.int .i32 r] w fun e w' => e = .returned (.int .i64 (signV r)) ∧ w = w' := by
  by_cases h1 : 48 ≤ r ∧ r ≤ 57
  · obtain ⟨h1, h2⟩ := h1
    have hv : signV r = r - 48 := by unfold signV; rw [if_pos ⟨h1, h2⟩]
    have HV := hide hv
    clear hv
    go_enter Try.func110, Try.ntmps110
    go_wp2
    all_goals
      go_ret
      exact ⟨(by rw [HV.out]; rfl), rfl⟩
  · by_cases h2 : 97 ≤ r ∧ r ≤ 102
    · obtain ⟨h2, h3⟩ := h2
      have hv : signV r = r - 97 + 10 := by unfold signV; rw [if_neg h1, if_pos ⟨h2, h3⟩]; omega
      have h4 : ¬ r ≤ 57 := by omega
      have h5 : 48 ≤ r := by omega
      have HV := hide hv
      clear hv h1
      go_enter Try.func110, Try.ntmps110
      go_wp2
      all_goals
        go_ret
        exact ⟨(by rw [HV.out]; rfl), rfl⟩
    · have hv : signV r = -1 := by unfold signV; rw [if_neg h1, if_neg h2]
      have HV := hide hv
      clear hv
      by_cases a : 48 ≤ r <;> by_cases b : r ≤ 57 <;> by_cases c : 97 ≤ r <;> by_cases d : r ≤ 102
      all_goals first
        | (exfalso; omega)
        | (clear h1 h2
           go_enter Try.func110, Try.ntmps110
           go_wp2
           all_goals
             go_ret
             exact ⟨(by rw [HV.out]; rfl), rfl⟩)
end Go.Proofs.Ytfmfnfmhknlpbaa

namespace Go.Proofs.Ytfmfnfmhknlpbaa
open Go.RowKit Go.Deep

def del (c : UInt8) : Bool := c == 44 || c == 41 || c == 40
/-- The end of the word that begins at p. -/
def wend (s : ByteArray) (p : Nat) : Nat := p + ((s.data.toList.drop p).takeWhile fun c => !del c).length
theorem drop_at (s : ByteArray) (p : Nat) (h : p < s.size) : s.data.toList.drop p = s[p] :: s.data.toList.drop (p + 1) := by
  rw [List.drop_eq_getElem_cons (by simpa using h)]; rfl
theorem wend_end (s : ByteArray) (p : Nat) (h : s.size ≤ p) : wend s p = p := by
  unfold wend; rw [List.drop_of_length_le (by simpa using h)]; simp
theorem wend_stop (s : ByteArray) (p : Nat) (h : p < s.size) (hd : del s[p] = true) : wend s p = p := by
  unfold wend; rw [drop_at s p h]; simp [hd]
theorem wend_step (s : ByteArray) (p : Nat) (h : p < s.size) (hd : del s[p] = false) : wend s (p + 1) = wend s p := by
  unfold wend; rw [drop_at s p h]; simp [hd]; omega
theorem wend_ge (s : ByteArray) (p : Nat) : p ≤ wend s p := Nat.le_add_right _ _
theorem wend_le (s : ByteArray) (p : Nat) (h : p ≤ s.size) : wend s p ≤ s.size := by
  unfold wend
  have h1 : ((s.data.toList.drop p).takeWhile fun c => !del c).length ≤ (s.data.toList.drop p).length := (List.takeWhile_sublist _).length_le
  have h2 : (s.data.toList.drop p).length = s.size - p := by rw [List.length_drop]; rfl
  omega

def peekV (s : ByteArray) (p : Nat) (c : Int) : Bool := if h : p < s.size then ((s[p].toNat : Int) == c) else false

set_option maxRecDepth 100000 in
set_option maxHeartbeats 1600000 in
theorem peek_any (w : World) (g : Nat) (s : ByteArray) (p : Nat) (c : Int) (hb : Blk w g 113 #[.string s, .int .i64 p]) (hs : s.size ≤ maxLen) :
    Calls Try.prog 111 #[.pointer (some ⟨g, 0, none⟩), .int .u8 c] w fun e w' => e = .returned (.bool (peekV s p c)) ∧ ∃ n, w' = w.drewN n := by
  unfold maxLen at hs
  have k0 := hb.cell 0
  have k1 := hb.cell 1
  simp at k0 k1
  clear hb
  by_cases hlt : p < s.size
  · have hlt' : (p : Int) < s.size := by omega
    have HV := hide (show peekV s p c = ((s[p].toNat : Int) == c) by unfold peekV; rw [dif_pos hlt])
    have hd : decide (p < s.size) = true := decide_eq_true hlt
    go_enter Try.func111, Try.ntmps111
    go_wp2_with fail
    go_quiet (fail)
    go_wp2_with fail
    go_ret
    exact ⟨(by rw [HV.out]; rfl), _, rfl⟩
  · have hlt' : ¬ (p : Int) < s.size := by omega
    have HV := hide (show peekV s p c = false by unfold peekV; rw [dif_neg hlt])
    have hd : decide (p < s.size) = false := decide_eq_false hlt
    go_enter Try.func111, Try.ntmps111
    go_wp2_with fail
    go_quiet (fail)
    go_wp2_with fail
    go_ret
    exact ⟨(by rw [HV.out]; rfl), _, rfl⟩

/-- The ending of a reader that meets no term. -/
def Fault (S : List Nat) (w : World) (e : Ending) (w' : World) : Prop := e = .panicked [{ v := .iface 116 (.agg #[]), recovered := false }] ∧ Only S w w'
/-- The reader stands at p. -/
def At (g : Nat) (s : ByteArray) (p : Nat) (w : World) : Prop := Blk w g 113 #[.string s, .int .i64 p]
def TakePost (g : Nat) (s : ByteArray) (p : Nat) (ok : Bool) (w : World) (e : Ending) (w' : World) : Prop :=
  if ok = true then e = .returned (.tuple #[]) ∧ At g s (p + 1) w' ∧ Only [g] w w' else Fault [g] w e w'

theorem take_no {g : Nat} {s : ByteArray} {p : Nat} {ok : Bool} {w w' : World} (h : ok = false) (ho : Only [g] w w') : TakePost g s p ok w (.panicked [{ v := .iface 116 (.agg #[]), recovered := false }]) w' := by
  subst h; exact ⟨rfl, ho⟩
theorem take_yes {g : Nat} {s : ByteArray} {p : Nat} {ok : Bool} {w w' : World} (h : ok = true) (hb : At g s (p + 1) w') (ho : Only [g] w w') : TakePost g s p ok w (.returned (.tuple #[])) w' := by
  subst h; exact ⟨rfl, hb, ho⟩
set_option maxRecDepth 100000 in
set_option maxHeartbeats 1600000 in
theorem take_any (w : World) (g : Nat) (s : ByteArray) (p : Nat) (c : Int) (hb : At g s p w) (hs : s.size ≤ maxLen) :
    Calls Try.prog 98 #[.pointer (some ⟨g, 0, none⟩), .int .u8 c] w (TakePost g s p (peekV s p c) w) := by
  unfold maxLen at hs
  have HB := hide hb
  have HO := hide (Only.refl [g] w)
  have k0 := hb.cell 0
  have k1 := hb.cell 1
  have f1 := hb.frozen 1
  simp at k0 k1
  clear hb
  by_cases hlt : p < s.size
  · have hlt' : ¬ (s.size : Int) ≤ p := by omega
    have hd : decide (s.size ≤ p) = false := decide_eq_false (by omega)
    cases hc : ((s[p].toNat : Int) == c) with
    | true =>
      have HV := hide (show peekV s p c = true by unfold peekV; rw [dif_pos hlt]; exact hc)
      have hn : ((s[p].toNat : Int) != c) = false := by simpa [bne] using hc
      go_enter Try.func98, Try.ntmps98
      go_wp2_with fail
      go_quiet (fail)
      go_wp2_with fail
      go_end0
      exact take_yes HV.out ((HB.out.drewN _).set_ 1 _) ((HO.out.drewN _).setCell (p := ⟨g, 1, none⟩) (.inl (by simp)) _)
    | false =>
      have HV := hide (show peekV s p c = false by unfold peekV; rw [dif_pos hlt]; exact hc)
      have hn : ((s[p].toNat : Int) != c) = true := by simpa [bne] using hc
      go_enter Try.func98, Try.ntmps98
      go_wp2_with fail
      go_quiet (fail)
      go_wp2_with fail
      exact ⟨rfl, take_no HV.out (HO.out.drewN _)⟩
  · have hlt' : (s.size : Int) ≤ p := by omega
    have hd : decide (s.size ≤ p) = true := decide_eq_true (by omega)
    have HV := hide (show peekV s p c = false by unfold peekV; rw [dif_neg hlt])
    go_enter Try.func98, Try.ntmps98
    go_wp2_with fail
    go_quiet (fail)
    go_wp2_with fail
    exact ⟨rfl, take_no HV.out (HO.out.drewN _)⟩
end Go.Proofs.Ytfmfnfmhknlpbaa

namespace Go.Proofs.Ytfmfnfmhknlpbaa
open Go.RowKit Go.Deep

def WordPost (g : Nat) (s : ByteArray) (p : Nat) (w : World) (e : Ending) (w' : World) : Prop :=
  e = .returned (.string (s.extract p (wend s p))) ∧ At g s (wend s p) w' ∧ Only [g] w w'

theorem byte_lt (c : UInt8) : c.toNat < 256 := c.toNat_lt
theorem ne_of_nat {c : UInt8} {n : Nat} (h : (c == UInt8.ofNat n) = false) (hn : n < 256) : ((c.toNat : Int) != n) = true := by
  have h1 : c.toNat ≠ n := by
    intro e
    subst e
    simp at h
  simp only [bne_iff_ne, ne_eq]
  omega
theorem del_false {c : UInt8} (h : del c = false) : ((c.toNat : Int) != 44) = true ∧ ((c.toNat : Int) != 41) = true ∧ ((c.toNat : Int) != 40) = true := by
  unfold del at h
  simp only [Bool.or_eq_false_iff] at h
  exact ⟨ne_of_nat (n := 44) h.1.1 (by decide), ne_of_nat (n := 41) h.1.2 (by decide), ne_of_nat (n := 40) h.2 (by decide)⟩
theorem del_true {c : UInt8} (h : del c = true) : ((c.toNat : Int) != 44) = false ∨ (((c.toNat : Int) != 44) = true ∧ ((c.toNat : Int) != 41) = false) ∨
    (((c.toNat : Int) != 44) = true ∧ ((c.toNat : Int) != 41) = true ∧ ((c.toNat : Int) != 40) = false) := by
  unfold del at h
  simp only [Bool.or_eq_true, beq_iff_eq] at h
  rcases h with (h | h) | h
  · subst h; exact .inl rfl
  · subst h; exact .inr (.inl ⟨rfl, rfl⟩)
  · subst h; exact .inr (.inr ⟨rfl, rfl, rfl⟩)
theorem word_end {g : Nat} {s : ByteArray} {p j : Nat} {w w' : World} (h : wend s p = j) (hb : At g s j w') (ho : Only [g] w w') : WordPost g s p w (.returned (.string (s.extract p j))) w' := by
  subst h; exact ⟨rfl, hb, ho⟩

set_option maxRecDepth 100000 in
set_option maxHeartbeats 3200000 in
theorem word_any (w : World) (g : Nat) (s : ByteArray) (p : Nat) (hb : At g s p w) (hp : p ≤ s.size) (hs : s.size ≤ maxLen) :
    Calls Try.prog 97 #[.pointer (some ⟨g, 0, none⟩)] w (WordPost g s p w) := by
  unfold maxLen at hs
  have HB := hide hb
  have k0 := hb.cell 0
  have k1 := hb.cell 1
  simp at k0 k1
  clear hb
  go_enter Try.func97, Try.ntmps97
  go_wp2_with fail
  clear k0 k1
  go_loopg [] (s.size - p) (fun gk wr => ∃ j : Nat, p ≤ j ∧ j ≤ s.size ∧ gk + j = s.size ∧ Hid (wend s j = wend s p) ∧ Hid (At g s j wr) ∧ Hid (Only [g] w wr))
  case atStart => exact ⟨p, Nat.le_refl _, hp, by omega, hide rfl, HB, hide (Only.refl _ _)⟩
  case round =>
    obtain ⟨j, hpj, hj, hgk, hw, HA, HO⟩ := hrel
    have k0 := HA.out.cell 0
    have k1 := HA.out.cell 1
    have f1 := HA.out.frozen 1
    simp at k0 k1
    have HG := hide hgk
    clear hgk
    by_cases hlt : j < s.size
    · have hlt' : (j : Int) < s.size := by omega
      have hd : decide (j < s.size) = true := decide_eq_true hlt
      cases hc : del s[j] with
      | false =>
        have HS := hide (wend_step s j hlt hc)
        obtain ⟨h1, h2, h3⟩ := del_false hc
        clear hc
        go_wp2_with fail
        go_quiet (fail)
        go_wp2_with fail
        go_roundg (gk - 1)
        case rel => exact ⟨j + 1, by omega, by omega, by have := HG.out; omega, hide (HS.out.trans hw.out), hide (HA.out.drewN _ |>.set_ 1 _), hide ((HO.out.drewN _).setCell (p := ⟨g, 1, none⟩) (.inl (by simp)) _)⟩
        case measure => have := HG.out; omega
      | true =>
        have HS := hide ((wend_stop s j hlt hc).symm.trans hw.out).symm
        rcases del_true hc with h1 | ⟨h1, h2⟩ | ⟨h1, h2, h3⟩
        all_goals
          clear hc
          go_wp2_with fail
          go_quiet (fail)
          go_wp2_with fail
          go_quiet (fail)
          go_wp2_with fail
          go_ret
          exact word_end HS.out ((HA.out.drewN _).drewN _) ((HO.out.drewN _).drewN _)
    · have hlt' : ¬ (j : Int) < s.size := by omega
      have hd : decide (j < s.size) = false := decide_eq_false hlt
      have HS := hide ((wend_end s j (by omega)).symm.trans hw.out).symm
      go_wp2_with fail
      go_quiet (fail)
      go_wp2_with fail
      go_quiet (fail)
      go_wp2_with fail
      go_ret
      exact word_end HS.out ((HA.out.drewN _).drewN _) ((HO.out.drewN _).drewN _)
end Go.Proofs.Ytfmfnfmhknlpbaa

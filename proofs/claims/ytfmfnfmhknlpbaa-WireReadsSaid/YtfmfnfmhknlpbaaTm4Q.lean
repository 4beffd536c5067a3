/-
  The plain answer of term's reader (rd), and the reader's number by contract. Condition: the text has at most 1,000,000 bytes.
-/
import Derived.Test.YtfmfnfmhknlpbaaNum4Q
namespace Go.Proofs.Ytfmfnfmhknlpbaa
open Go.RowKit Go.Deep

/-- The number of a kind that a word tells. -/
def numK (k : Int) (l : List UInt8) : Option Nat := if (numR l).2 = 0 ∧ allowedV k (numR l).1 = true then some (numR l).1 else none
def gtB (a b : ByteArray) : Bool := !(Op.bytesLess a.toList b.toList || a.toList == b.toList)
/-- A term that was read: kind, number, bytes, parts. -/
abbrev Nd := Int × Nat × List UInt8 × List ByteArray
def rdEnd (s : ByteArray) (k : Int) (n : Nat) (parts : List ByteArray) (p : Nat) : Option (Nd × Nat) :=
  if peekV s p 41 = true then (if fitsV k parts.length = true then some ((k, n, [], parts), p + 1) else none) else none
/-- Read from p on: a term (none), or the parts of a term, some of which are read (some). -/
def rd (s : ByteArray) : Nat → Option (Int × Nat × List ByteArray) → Nat → Option (Nd × Nat)
  | 0, _, _ => none
  | f + 1, none, p =>
    if h : p < s.size then
      if kindV s[p].toNat = 0 then none
      else if kindV s[p].toNat = 1 then some ((1, 0, [], []), p + 1)
      else if kindV s[p].toNat = 2 ∨ kindV s[p].toNat = 3 then
        match numK (kindV s[p].toNat) (s.extract (p + 1) (wend s (p + 1))).data.toList with
        | none => none
        | some n => some ((kindV s[p].toNat, n, [], []), wend s (p + 1))
      else if kindV s[p].toNat = 4 then
        if (hexR (s.extract (p + 1) (wend s (p + 1))).data.toList).2 = 0 then some ((4, 0, (hexR (s.extract (p + 1) (wend s (p + 1))).data.toList).1, []), wend s (p + 1)) else none
      else if peekV s (p + 1) 40 = false then none
      else if numberedV (kindV s[p].toNat) = true then
        match numK (kindV s[p].toNat) (s.extract (p + 2) (wend s (p + 2))).data.toList with
        | none => none
        | some n =>
          if peekV s (wend s (p + 2)) 44 = false then none
          else if peekV s (wend s (p + 2) + 1) 41 = true then rdEnd s (kindV s[p].toNat) n [] (wend s (p + 2) + 1)
          else rd s f (some (kindV s[p].toNat, n, [])) (wend s (p + 2) + 1)
      else if peekV s (p + 2) 41 = true then rdEnd s (kindV s[p].toNat) 0 [] (p + 2)
      else rd s f (some (kindV s[p].toNat, 0, [])) (p + 2)
    else none
  | f + 1, some (k, n, parts), p =>
    match rd s f none p with
    | none => none
    | some (_, q) =>
      if k = 6 ∧ parts.length = 1 ∧ gtB (parts.getLastD ByteArray.empty) (s.extract p q) = true then none
      else if peekV s q 44 = true then rd s f (some (k, n, parts ++ [s.extract p q])) (q + 1)
      else rdEnd s k n (parts ++ [s.extract p q]) q

def NumberPost (g : Nat) (s : ByteArray) (p : Nat) (r : Option Nat) (w : World) (e : Ending) (w' : World) : Prop :=
  match r with
  | none => Fault [g] w e w'
  | some n => e = .returned (.int .u64 n) ∧ At g s (wend s p) w' ∧ Only [g] w w' ∧ n < 18446744073709551616
theorem number_no {g : Nat} {s : ByteArray} {p : Nat} {r : Option Nat} {w w' : World} (h : r = none) (ho : Only [g] w w') : NumberPost g s p r w (.panicked [{ v := .iface 116 (.agg #[]), recovered := false }]) w' := by
  subst h; exact ⟨rfl, ho⟩
theorem number_yes {g : Nat} {s : ByteArray} {p n : Nat} {r : Option Nat} {w w' : World} (h : r = some n) (hb : At g s (wend s p) w') (ho : Only [g] w w') (hn : n < 18446744073709551616) : NumberPost g s p r w (.returned (.int .u64 n)) w' := by
  subst h; exact ⟨rfl, hb, ho, hn⟩
theorem extract_size (s : ByteArray) (p q : Nat) : (s.extract p q).size ≤ s.size := by
  rw [ByteArray.size_extract]; omega

set_option maxRecDepth 100000 in
set_option maxHeartbeats 1600000 in
theorem number_any (w : World) (g : Nat) (s : ByteArray) (p : Nat) (k : Int) (hb : At g s p w) (hp : p ≤ s.size) (hs : s.size ≤ 1000000) :
    Calls Try.prog 95 #[.pointer (some ⟨g, 0, none⟩), .int .i64 k] w (NumberPost g s p (numK k (s.extract p (wend s p)).data.toList) w) := by
  have HW := hide (word_any w g s p hb hp (by unfold maxLen; omega))
  have hx := extract_size s p (wend s p)
  generalize hq : wend s p = q at *
  have HQ := hide hq
  clear hq
  generalize ht : s.extract p q = t at *
  have HT := hide ht
  clear ht hb
  have HN := hide (fun W => num_read W t)
  have HA := hide (fun W n => allowed_any k n W)
  have hr := numR_lt t.data.toList
  have HK := hide (show numK k t.data.toList = if (numR t.data.toList).2 = 0 ∧ allowedV k (numR t.data.toList).1 = true then some (numR t.data.toList).1 else none from rfl)
  generalize numR t.data.toList = r at *
  obtain ⟨u, c⟩ := r
  simp only at hr HK
  cases hc : ((c : Int) != 0) with
  | true =>
    have HR := hide (show numK k t.data.toList = none by rw [HK.out, if_neg]; rintro ⟨a, _⟩; subst a; simp at hc)
    go_enter Try.func95, Try.ntmps95
    go_wp2_with (first
      | (go_at_call 97; refine HW.out.mono ?_; rintro e w1 ⟨rfl, hb1, ho1⟩; rw [HQ.out, HT.out]; have HO1 := hide ho1; clear hb1 ho1)
      | (go_at_call 108; refine (HN.out _ (by omega)).mono ?_; rintro e w2 ⟨rfl, ho2⟩; have HO2 := hide (HO1.out.trans (ho2.mono (by simp))); clear ho2))
    exact ⟨rfl, number_no HR.out HO2.out⟩
  | false =>
    have hc0 : c = 0 := by simpa using hc
    cases ha : allowedV k u with
    | false =>
      have HR := hide (show numK k t.data.toList = none by rw [HK.out, if_neg]; rintro ⟨_, a⟩; rw [ha] at a; cases a)
      have HAL := hide ha
      have HC0 := hide hc0
      clear ha hc0
      go_enter Try.func95, Try.ntmps95
      go_wp2_with (first
        | (go_at_call 97; refine HW.out.mono ?_; rintro e w1 ⟨rfl, hb1, ho1⟩; rw [HQ.out, HT.out]; have HO1 := hide ho1; clear hb1 ho1)
        | (go_at_call 108; refine (HN.out _ (by omega)).mono ?_; rintro e w2 ⟨rfl, ho2⟩; have HO2 := hide (HO1.out.trans (ho2.mono (by simp))); clear ho2)
        | (go_at_call 109; refine (HA.out _ _).mono ?_; rintro e w3 ⟨rfl, rfl⟩; rw [HAL.out]))
      exact ⟨rfl, number_no HR.out HO2.out⟩
    | true =>
      have HR := hide (show numK k t.data.toList = some u by rw [HK.out, if_pos ⟨hc0, ha⟩])
      have HAL := hide ha
      have HC0 := hide hc0
      have HU := hide hr
      clear ha hc0 hr
      go_enter Try.func95, Try.ntmps95
      go_wp2_with (first
        | (go_at_call 97; refine HW.out.mono ?_; rintro e w1 ⟨rfl, hb1, ho1⟩; rw [HQ.out, HT.out]; have HO1 := hide ho1; have HB1 := hide hb1; clear hb1 ho1)
        | (go_at_call 108; refine (HN.out _ (by omega)).mono ?_; rintro e w2 ⟨rfl, ho2⟩; have HO2 := hide (HO1.out.trans (ho2.mono (by simp))); have HB2 := hide (show At g s q w2 from by have h := HB1.out; rw [HQ.out] at h; exact Blk.only h ho2 (by simp)); clear ho2)
        | (go_at_call 109; refine (HA.out _ _).mono ?_; rintro e w3 ⟨rfl, rfl⟩; rw [HAL.out]))
      go_ret
      exact number_yes HR.out (by rw [HQ.out]; exact HB2.out) HO2.out HU.out
end Go.Proofs.Ytfmfnfmhknlpbaa

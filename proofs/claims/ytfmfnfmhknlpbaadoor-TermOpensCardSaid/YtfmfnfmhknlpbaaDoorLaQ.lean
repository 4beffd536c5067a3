/-
  What any text is as a term, in one word; the chapter's examples; what the laws of layer 2 need, plain. Condition of awake: the library's table of powers of ten reads as it was laid.
-/
import Derived.Test.YtfmfnfmhknlpbaaDoorAgQ
import Derived.Test.YtfmfnfmhknlpbaaDoorZA
namespace Go.Proofs.YtfmfnfmhknlpbaaDoor
open Go.RowKit Go.Deep

/-- What a text is as a term: kind 0, if it is none. -/
def whatV (s : ByteArray) : Nd := (parseV s).getD (0, 0, [], [])
theorem what_kind (s : ByteArray) : kindT s = (whatV s).1 := by unfold kindT whatV; cases parseV s <;> rfl
theorem what_val (s : ByteArray) : valT s = ((whatV s).2.1, numberedV (whatV s).1) := by
  unfold valT whatV
  cases h : parseV s with
  | none => rfl
  | some nd =>
    obtain ⟨k, n, b, l⟩ := nd
    have hm := (read_make h).2.2.2.2.2.1
    simp only [Option.getD_some]
    cases hn : numberedV k with
    | true => rfl
    | false => rw [hm hn]; rfl
theorem what_bytes (s : ByteArray) : bytT s = ((whatV s).2.2.1, decide ((whatV s).1 = 4)) := by
  unfold bytT whatV
  cases h : parseV s with
  | none => rfl
  | some nd =>
    obtain ⟨k, n, b, l⟩ := nd
    have hm := (read_make h).2.2.2.2.2.2.1
    simp only [Option.getD_some]
    by_cases h4 : k = 4
    · rw [if_pos h4, decide_eq_true h4]
    · rw [if_neg h4, decide_eq_false h4, hm h4]
theorem what_parts (s : ByteArray) : parT s = (whatV s).2.2.2 := by unfold parT whatV; cases parseV s <;> rfl
theorem what_range (s : ByteArray) : 0 ≤ (whatV s).1 ∧ (whatV s).1 ≤ 11 ∧ (whatV s).2.1 < 18446744073709551616 ∧ (∀ p ∈ (whatV s).2.2.2, p.size ≤ maxLen) := by
  unfold whatV
  cases h : parseV s with
  | none => exact ⟨Int.le_refl _, by decide, by decide, by simp⟩
  | some nd =>
    obtain ⟨k, n, b, l⟩ := nd
    have hm := read_make h
    have hs := parse_size h
    refine ⟨by have := hm.2.1; simp only [Option.getD_some]; omega, by have := hm.2.2.1; simp only [Option.getD_some]; omega, hm.2.2.2.2.1, fun p hp => ?_⟩
    have := hm.2.2.2.2.2.2.2.2.1 p hp
    unfold maxLen
    omega
theorem what_make (s : ByteArray) (h : (whatV s).1 ≠ 0) : makeV (whatV s).1 (whatV s).2.1 (whatV s).2.2.1 (whatV s).2.2.2 = s := by
  unfold whatV at *
  cases h' : parseV s with
  | none => rw [h'] at h; exact absurd rfl h
  | some nd =>
    obtain ⟨k, n, b, l⟩ := nd
    exact (read_make h').1
theorem what_is (s : ByteArray) : (parseV s).isSome = decide ((whatV s).1 ≠ 0) := by
  unfold whatV
  cases h : parseV s with
  | none => rfl
  | some nd =>
    obtain ⟨k, n, b, l⟩ := nd
    have hm := (read_make h).2.1
    rw [Option.isSome_some, Option.getD_some]
    exact (decide_eq_true (by simp only; omega)).symm
/-- The reference's Read, in that word. -/
theorem readR_what (w : World) (s : ByteArray) (hs : s.size ≤ maxLen) : Calls Tryd.prog 23 #[.string s] w fun e w' => ∃ bv pv, e = .returned (.agg #[.int .i64 (whatV s).1, .int .u64 ((whatV s).2.1 : Nat), bv, pv]) ∧ Only [] w w' ∧
      Rd w' [] bv (ints .u8 (byts (whatV s).2.2.1)) ∧ Rd w' [] pv (strs (whatV s).2.2.2) :=
  (readR_all w s hs).mono fun e w' h => by
    unfold ReadRPost at h
    unfold whatV
    cases hp : parseV s with
    | none =>
      rw [hp] at h
      exact ⟨_, _, h.1, h.2, Rd.nil _ _, Rd.nil _ _⟩
    | some nd =>
      rw [hp] at h
      obtain ⟨bv, pv, h1, h2, h3, h4⟩ := h
      exact ⟨bv, pv, h1, h2, h3 [] (by simp), h4 [] (by simp)⟩
theorem make_swap (n : Nat) (b : List UInt8) (x y : ByteArray) : makeV 6 n b [x, y] = makeV 6 n b [y, x] := by
  unfold makeV
  rw [sort_two x y]
  have h : (∀ p ∈ [x, y], (parseV p).isSome = true) ↔ (∀ p ∈ [y, x], (parseV p).isSome = true) := by
    simp [and_comm]
  by_cases hc : (1 : Int) ≤ 6 ∧ (6 : Int) ≤ 11 ∧ (numberedV 6 = true → allowedV 6 n = true) ∧ fitsV 6 ([x, y].length : Nat) = true ∧ (∀ p ∈ [x, y], (parseV p).isSome = true) ∧ (txtL 6 n b (sortV 6 [y, x])).length ≤ 65536
  · rw [if_pos hc, if_pos ⟨hc.1, hc.2.1, hc.2.2.1, hc.2.2.2.1, h.1 hc.2.2.2.2.1, hc.2.2.2.2.2⟩]
  · rw [if_neg hc, if_neg (fun c => hc ⟨c.1, c.2.1, c.2.2.1, c.2.2.2.1, h.2 c.2.2.2.2.1, c.2.2.2.2.2⟩)]
theorem same_refl (v u : Value) (l : List ByteArray) (w : World) (hx : Rd w [] v (strs l)) (hy : Rd w [] u (strs l)) : Calls Tryd.prog 19 #[v, u] w fun e w' => e = .returned (.bool true) ∧ Only [] w w' :=
  (same_strs v u l l w hx hy).mono fun e w' h => ⟨by rw [h.1, decide_eq_true rfl], h.2⟩
theorem bytes_refl (v u : Value) (l : List UInt8) (w : World) (hx : Rd w [] v (ints .u8 (byts l))) (hy : Rd w [] u (ints .u8 (byts l))) : Calls Tryd.prog 28 #[v, u] w fun e w' => e = .returned (.bool true) ∧ Only [] w w' :=
  (same_bytes v u l l [] [] w hx hy).mono fun e w' h => ⟨by rw [h.1, decide_eq_true rfl], by rw [← h.2]; exact Only.refl _ _⟩
theorem undrew {S : List Nat} {w w' : World} (h : Only S w.drew w') : Only S w w' := ⟨h.os, h.tape, h.output, h.size, h.block⟩

theorem aw_seal : openT ⟨#[115, 40, 55, 44, 97, 49, 44, 120, 48, 48, 44, 48, 41]⟩ ⟨#[97, 49]⟩ 7 ⟨#[48]⟩ = (⟨#[120, 48, 48]⟩, 0) := by
  have h : parseV ⟨#[115, 40, 55, 44, 97, 49, 44, 120, 48, 48, 44, 48, 41]⟩ = some (10, 7, [], [⟨#[97, 49]⟩, ⟨#[120, 48, 48]⟩, ⟨#[48]⟩]) := by kernel_rfl
  unfold openT
  rw [h]
  rfl
theorem aw_agree : agreeT ⟨#[97, 49]⟩ ⟨#[112, 40, 97, 48, 41]⟩ = ⟨#[100, 40, 97, 48, 44, 97, 49, 41]⟩ := by
  have h : parseV ⟨#[112, 40, 97, 48, 41]⟩ = some (5, 0, [], [⟨#[97, 48]⟩]) := by kernel_rfl
  have h2 : parseV ⟨#[100, 40, 97, 48, 44, 97, 49, 41]⟩ = some (6, 0, [], [⟨#[97, 48]⟩, ⟨#[97, 49]⟩]) := by kernel_rfl
  unfold agreeT
  rw [h]
  show makeV 6 0 [] [⟨#[97, 49]⟩, ⟨#[97, 48]⟩] = _
  rw [make_swap]
  exact (read_make h2).1

set_option maxRecDepth 100000 in
set_option maxHeartbeats 3200000 in
theorem awake02 (w : World) (htab : Tab w) : Calls Tryd.prog 10 #[] w fun e w' => e = .returned (.bool true) ∧ Only [] w w' := by
  have H1 := hide (fun W => Open_any W ⟨#[115, 40, 55, 44, 97, 49, 44, 120, 48, 48, 44, 48, 41]⟩ ⟨#[97, 49]⟩ ⟨#[48]⟩ 7 (by unfold maxLen; decide))
  have H2 := hide (fun W ht => Agree_any W ⟨#[97, 49]⟩ ⟨#[112, 40, 97, 48, 41]⟩ (by unfold maxLen; decide) (by unfold maxLen; decide) ht)
  unfold OpenPost at H1
  unfold MakePost at H2
  rw [aw_seal] at H1
  rw [aw_agree] at H2
  have HT := hide htab
  clear htab
  go_enter Tryd.func10, Tryd.ntmps10
  go_wp2_with (first
    | (go_at_call 21; refine (H1.out _).mono ?_; rintro e w1 ⟨rfl, ho⟩; have HC := hide ho; clear ho)
    | (go_at_call 13; refine (H2.out _ (HT.out.only HC.out (by simp))).mono ?_; rintro e w1 ⟨rfl, ho⟩; have HC := hide (HC.out.trans ho); clear ho))
  go_ret
  exact ⟨rfl, HC.out⟩
end Go.Proofs.YtfmfnfmhknlpbaaDoor

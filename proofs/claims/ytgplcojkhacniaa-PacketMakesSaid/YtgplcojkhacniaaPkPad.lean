/-
  Contract of packet's Pad, by walking.
-/
import Derived.Test.YtgplcojkhacniaaZeros
import Derived.Test.YtgplcojkhacniaaClone
namespace Go.Proofs.Ytgplcojkhacniaa
open Go.RowKit Go.Deep

/-- How many noughts are put behind. -/
def padN (n : Int) (len : Nat) : Nat := if n < 1 ∨ len % n.toNat = 0 then 0 else n.toNat - len % n.toNat
def PadPost (w : World) (xs : List Int) (e : Ending) (w' : World) : Prop := ∃ v', e = .returned v' ∧ OwnB w' w.heap.size v' xs ∧ Only [] w w'

set_option maxRecDepth 100000 in
theorem pad_any (w : World) (N : List Nat) (v : Value) (l : List UInt8) (n : Int) (hv : Rd w N v (ints .u8 (byts l))) (hl : l.length ≤ 5000) (hn : n ≤ 5000) (hn' : -9223372036854775808 ≤ n) :
    Calls Try.prog 14 #[v, .int .i64 n] w (PadPost w (byts l ++ List.replicate (padN n l.length) 0)) := by
  have HC := hide (clone_any w N v (byts l) hv (by rw [byts_length]; omega))
  obtain ⟨A, cap, rfl, hc, hm⟩ := hv.formb
  have HL := hide (byts_length l)
  clear hv hm
  generalize byts l = xs at *
  generalize l.length = len at *
  by_cases h1 : n < 1
  · have e : padN n len = 0 := by unfold padN; rw [if_pos (.inl h1)]
    rw [e, List.replicate_zero, List.append_nil]
    clear e
    go_enter Try.func14, Try.ntmps14
    go_wp2_with (go_at_call 16; refine HC.out.mono ?_; rintro e w1 ⟨v1, rfl, how, ho⟩; have HOW := hide how; have HO := hide ho; clear how ho)
    go_ret
    exact ⟨v1, rfl, HOW.out, HO.out⟩
  obtain ⟨k, rfl⟩ := Int.eq_ofNat_of_zero_le (show 0 ≤ n by omega)
  have hk1 : 1 ≤ k := by omega
  by_cases h2 : len % k = 0
  · have e : padN k len = 0 := by unfold padN; rw [if_pos (.inr (by rw [Int.toNat_natCast]; exact h2))]
    rw [e, List.replicate_zero, List.append_nil]
    have g1 : ¬ (k : Int) < 1 := h1
    have g2 : ((len : Int) % k == 0) = true := by rw [beq_iff_eq]; omega
    have g3 : (1 : Int) ≤ k := by omega
    clear e h2
    go_enter Try.func14, Try.ntmps14
    go_wp2_with (go_at_call 16; refine HC.out.mono ?_; rintro e w1 ⟨v1, rfl, how, ho⟩; have HOW := hide how; have HO := hide ho; clear how ho)
    go_ret
    exact ⟨v1, rfl, HOW.out, HO.out⟩
  have hmod : len % k < k := Nat.mod_lt _ (by omega)
  have e : padN k len = k - len % k := by unfold padN; rw [if_neg (by rw [Int.toNat_natCast]; rintro (h | h); exact h1 h; exact h2 h), Int.toNat_natCast]
  rw [e]
  obtain ⟨i0, hi, hz0, hz1, hz2⟩ := info_parts Try.info5
  have g1 : ¬ (k : Int) < 1 := h1
  have g2 : ((len : Int) % k == 0) = false := by rw [beq_eq_false_iff_ne]; omega
  have g3 : (1 : Int) ≤ k := by omega
  obtain ⟨r, hr⟩ : ∃ r, r = len % k := ⟨_, rfl⟩
  have g4 : (len : Int) % k = r := by omega
  have hr1 : r < k := by omega
  rw [g4] at g2
  rw [← hr]
  have hr0 : (r : Int) < k := by omega
  have hk5 : (k : Int) ≤ 5000 := hn
  have hl5 : (len : Int) ≤ 5000 := by omega
  have t1 : ¬ (2147483648 - (len : Int) ≤ k - r) := by omega
  have HG := hide g4
  have HX := hide (show (((k : Int) - r)) = ((k - r : Nat) : Int) by omega)
  clear e h2 hmod hr h1
  go_enter Try.func14, Try.ntmps14
  go_wp2_with (first
    | (go_at_call 16; refine HC.out.mono ?_; rintro e w1 ⟨v1, rfl, how, ho⟩; have HOW := hide how; have HO := hide ho; clear how ho)
    | (at_builtin; refine wpList_append_zeros_own rfl (.tmp 31) (.tmp 32) 22 3 rfl w.heap.size 5 i0 (.int .u8 0) .i64 .i64 Try.underlying22 Try.underlying3 hi hz0 hz1 hz2 rfl rfl _ xs.length _ rfl HOW.out (k - r) _ rfl HX.out (by omega) (by have := HL.out; omega) HO.out.size ?_; intro v2 w2 how2 hg2; have HOW2 := hide how2; have HO2 := hide (HO.out.grown hg2 (fun j hj => .inr (own_block_ge HOW.out hj))); clear how2 hg2))
  go_ret
  refine ⟨v2, rfl, ?_, HO2.out⟩
  have h := HOW2.out
  unfold OwnB
  rw [List.length_append, List.length_replicate]
  have e : ints .u8 (xs ++ List.replicate (k - r) 0) = ints .u8 xs ++ List.replicate (k - r) (.int .u8 0) := by simp [ints]
  rw [e]
  exact h
end Go.Proofs.Ytgplcojkhacniaa

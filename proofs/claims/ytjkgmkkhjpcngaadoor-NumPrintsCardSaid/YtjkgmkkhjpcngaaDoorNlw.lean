/-
  The laws NumReads and NumPrints, by walking. Condition: the library's table of powers of ten reads as it was laid.
-/
import Derived.Test.YtjkgmkkhjpcngaaDoorNa
import Derived.Test.YtjkgmkkhjpcngaaDoorNp1
namespace Go.Proofs.YtjkgmkkhjpcngaaDoor
open Go.RowKit Go.Deep

def TruePost (w : World) (e : Ending) (w' : World) : Prop := e = .returned (.bool true) ∧ Only [] w w'
theorem true_post {w w' : World} {b : Bool} (hb : b = true) (ho : Only [] w w') : TruePost w (.returned (.bool b)) w' := by subst hb; exact ⟨rfl, ho⟩
theorem str_back (s : ByteArray) (l : List UInt8) (h : l = s.data.toList) : (⟨l.toArray⟩ : ByteArray) = s := by subst h; simp
theorem print_back (u : Nat) (s : ByteArray) (hu64 : u < 18446744073709551616) (h : Lib.decDigits u = s.data.toList) (w : World) (htab : Tab w) :
    Calls Tryd.prog 15 #[.int .u64 u] w fun e w' => e = .returned (.string s) ∧ Only [] w w' :=
  (print_any u hu64 w htab).mono fun e w' hp => ⟨by rw [hp.1, str_back s _ h], hp.2⟩
theorem hex_back (w : World) (N : List Nat) (v : Value) (l : List UInt8) (s : ByteArray) (hv : Rd w N v (ints .u8 (byts l))) (hl : l.length ≤ 1000000) (h : hexS l = s.data.toList) :
    Calls Tryd.prog 16 #[v] w fun e w' => e = .returned (.string s) ∧ Only [] w w' :=
  (num_hex w N v l hv hl).mono fun e w' hp => ⟨by rw [hp.1, str_back s _ h], hp.2⟩
theorem read_is (w : World) (s : ByteArray) (hs : s.size ≤ 1000000) (u c : Nat) (h : numR s.data.toList = (u, c)) :
    Calls Tryd.prog 10 #[.string s] w fun e w' => e = .returned (.tuple #[.int .u64 u, .int .i64 c]) ∧ Only [] w w' :=
  (num_read w s hs).mono fun e w' hp => ⟨by rw [hp.1, h], hp.2⟩
theorem refread_is (w : World) (s : ByteArray) (hs : s.size ≤ 1000000) (u c : Nat) (h : numR s.data.toList = (u, c)) :
    Calls Tryd.prog 11 #[.string s] w fun e w' => e = .returned (.tuple #[.int .u64 u, .int .i64 c]) ∧ w = w' :=
  (read_ref w s hs).mono fun e w' hp => ⟨by rw [hp.1, h], hp.2⟩
theorem readhex_is (w : World) (s : ByteArray) (hs : s.size ≤ 1000000) (b : List UInt8) (c : Nat) (h : hexR s.data.toList = (b, c)) :
    Calls Tryd.prog 12 #[.string s] w fun e w' => ∃ v, e = .returned (.tuple #[v, .int .i64 c]) ∧ Only [] w w' ∧ Rd w' [] v (ints .u8 (byts b)) :=
  (num_readhex w s hs).mono fun e w' hp => by
    obtain ⟨v, he, ho, hr⟩ := hp
    rw [h] at he hr
    exact ⟨v, he, ho, hr [] (by simp)⟩
theorem refreadhex_is (w : World) (s : ByteArray) (hs : s.size ≤ 1000000) (b : List UInt8) (c : Nat) (h : hexR s.data.toList = (b, c)) :
    Calls Tryd.prog 13 #[.string s] w fun e w' => ∃ v, e = .returned (.tuple #[v, .int .i64 c]) ∧ Only [] w w' ∧ Rd w' [] v (ints .u8 (byts b)) :=
  (readhex_ref w s hs).mono fun e w' hp => by
    obtain ⟨v, he, ho, hr⟩ := hp
    rw [h] at he hr
    exact ⟨v, he, ho, hr [] (by simp)⟩
theorem same_is (v u : Value) (l : List UInt8) (w : World) (hx : Rd w [] v (ints .u8 (byts l))) (hy : Rd w [] u (ints .u8 (byts l))) :
    Calls Tryd.prog 14 #[v, u] w fun e w' => e = .returned (.bool true) ∧ w = w' :=
  (same_bytes v u l l [] [] w hx hy).mono fun e w' hp => ⟨by rw [hp.1]; simp, hp.2⟩

set_option maxRecDepth 100000 in
set_option maxHeartbeats 6400000 in
theorem numReads_walk (s : ByteArray) (w : World) (htab : Tab w) : Calls Tryd.prog 3 #[.string s] w (TruePost w) := by
  by_cases hlen : 500 < s.size
  · have hl1 : (500 : Int) < s.size := by omega
    clear hlen
    go_enter Tryd.func3, Tryd.ntmps3
    go_wp2_with (go_at_call 9; refine (awake01 _).mono ?_; rintro e w1 ⟨rfl, ho⟩; have HC := hide ho; clear ho)
    go_ret
    exact true_post rfl HC.out
  have hl1 : ¬ (500 : Int) < s.size := by omega
  obtain ⟨u, c, hr⟩ : ∃ u c, numR s.data.toList = (u, c) := ⟨_, _, rfl⟩
  obtain ⟨b, h, hq⟩ : ∃ b h, hexR s.data.toList = (b, h) := ⟨_, _, rfl⟩
  have hu64 : u < 18446744073709551616 := by have := numR_lt s.data.toList; rw [hr] at this; exact this
  have hbl : b.length ≤ 1000000 := by
    have := hexR_len s.data.toList
    rw [hq, Array.length_toList] at this
    have e : s.data.size = s.size := rfl
    have h2 : b.length ≤ s.data.size := this
    omega
  have hpb : c = 0 → Lib.decDigits u = s.data.toList := fun hc => by
    have := numR_back s.data.toList (by rw [hr]; exact hc)
    rw [hr] at this; exact this
  have hhb : h = 0 → hexS b = s.data.toList := fun hc => by
    have := hexR_back s.data.toList (by rw [hq]; exact hc)
    rw [hq] at this; exact this
  have HT := hide htab
  have F1 := hide (fun W => read_is W s (by omega) u c hr)
  have F2 := hide (fun W => refread_is W s (by omega) u c hr)
  have F3 := hide (fun W => readhex_is W s (by omega) b h hq)
  have F4 := hide (fun W => refreadhex_is W s (by omega) b h hq)
  have hcs : (c = 0 ∨ ((c : Int) != 0) = true ∧ ((c : Int) == 0) = false) := by
    rcases Nat.eq_zero_or_pos c with h | h
    · exact .inl h
    · exact .inr ⟨by rw [bne_iff_ne]; omega, by rw [beq_eq_false_iff_ne]; omega⟩
  have hhs : (h = 0 ∨ ((h : Int) != 0) = true ∧ ((h : Int) == 0) = false) := by
    rcases Nat.eq_zero_or_pos h with h | h
    · exact .inl h
    · exact .inr ⟨by rw [bne_iff_ne]; omega, by rw [beq_eq_false_iff_ne]; omega⟩
  have F5 := hide (fun (hc : c = 0) W ht => print_back u s hu64 (hpb hc) W ht)
  have F6 := hide (fun (hc : h = 0) W N v hv => hex_back W N v b s hv hbl (hhb hc))
  clear hr hq hpb hhb hlen htab hu64 hbl
  rcases hcs with hc | ⟨hc, hc'⟩ <;> rcases hhs with hh | ⟨hh, hh'⟩
  all_goals
    first | subst hc | skip
    first | subst hh | skip
    go_enter Tryd.func3, Tryd.ntmps3
    go_wp2_with (first
      | (go_at_call 9; refine (awake01 _).mono ?_; rintro e w1 ⟨rfl, ho⟩; have HC := hide ho; clear ho)
      | (go_at_call 10; refine (F1.out _).mono ?_; rintro e w2 ⟨rfl, ho⟩; have HC := hide (HC.out.trans ho); clear ho)
      | (go_at_call 11; refine (F2.out _).mono ?_; rintro e w2 ⟨rfl, rfl⟩)
      | (go_at_call 12; refine (F3.out _).mono ?_; rintro e w3 ⟨v1, rfl, ho, hv1⟩; have HC := hide (HC.out.trans ho); have HV := hide hv1; clear ho hv1)
      | (go_at_call 13; refine (F4.out _).mono ?_; rintro e w4 ⟨v2, rfl, ho, hv2⟩; have HC := hide (HC.out.trans ho); have HV := hide (HV.out.only ho (by simp)); have HU := hide hv2; clear ho hv2)
      | (go_at_call 14; refine (same_is _ _ b _ HV.out HU.out).mono ?_; rintro e w5 ⟨rfl, rfl⟩)
      | (go_at_call 15; refine (F5.out (by first | trivial | rfl) _ (HT.out.only HC.out (by simp))).mono ?_; rintro e w6 ⟨rfl, ho⟩; have HC := hide (HC.out.trans ho); have HV := hide (HV.out.only ho (by simp)); clear ho)
      | (go_at_call 16; refine (F6.out (by first | trivial | rfl) _ _ _ HV.out).mono ?_; rintro e w7 ⟨rfl, ho⟩; have HC := hide (HC.out.trans ho); clear ho))
    go_ret
    exact true_post (by first | rfl | simp) HC.out
end Go.Proofs.YtjkgmkkhjpcngaaDoor

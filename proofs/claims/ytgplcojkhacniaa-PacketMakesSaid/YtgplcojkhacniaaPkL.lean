/-
  Contracts of the law's same and awake (packet), by walking.
-/
import Derived.Test.YtgplcojkhacniaaPkM
import Derived.Test.YtgplcojkhacniaaPkRef
import Derived.Test.YtgplcojkhacniaaPkR
namespace Go.Proofs.Ytgplcojkhacniaa
open Go.RowKit Go.Deep

theorem same_true (v u : Value) (l : List UInt8) (N M : List Nat) (w : World) (hx : Rd w N v (ints .u8 (byts l))) (hy : Rd w M u (ints .u8 (byts l))) :
    Calls Try.prog 11 #[v, u] w fun e w' => e = .returned (.bool true) ∧ w = w' :=
  (same_bytes v u l l N M w hx hy).mono fun e w' ⟨he, hw⟩ => ⟨by rw [he, decide_eq_true rfl], hw⟩

set_option maxRecDepth 100000 in
theorem hdr_same (w : World) (N M : List Nat) (ver n : Int) (s1 d1 s2 d2 : Value) (ls ld : List UInt8) (h1 : Rd w N s1 (ints .u8 (byts ls))) (h2 : Rd w N d1 (ints .u8 (byts ld)))
    (h3 : Rd w M s2 (ints .u8 (byts ls))) (h4 : Rd w M d2 (ints .u8 (byts ld))) :
    Calls Try.prog 10 #[.agg #[.int .i64 ver, s1, d1, .int .i64 n], .agg #[.int .i64 ver, s2, d2, .int .i64 n]] w fun e w' => e = .returned (.bool true) ∧ Only [] w w' := by
  obtain ⟨A1, c1, rfl, _, _⟩ := h1.formb
  obtain ⟨A2, c2, rfl, _, _⟩ := h2.formb
  obtain ⟨A3, c3, rfl, _, _⟩ := h3.formb
  obtain ⟨A4, c4, rfl, _, _⟩ := h4.formb
  have HO := hide (((Only.refl [] w).alloc (.cells #[.int .i64 ver, .slice A1 ls.length c1, .slice A2 ld.length c2, .int .i64 n] 25)).alloc (.cells #[.int .i64 ver, .slice A3 ls.length c3, .slice A4 ld.length c4, .int .i64 n] 25))
  have H1 := hide (h1.only HO.out (by simp))
  have H2 := hide (h2.only HO.out (by simp))
  have H3 := hide (h3.only HO.out (by simp))
  have H4 := hide (h4.only HO.out (by simp))
  clear h1 h2 h3 h4
  go_enter Try.func10, Try.ntmps10
  go_wp2_with (first
    | (go_at_call_of 11 (Value.slice A1 ls.length c1); refine (same_true _ _ ls N M _ H1.out H3.out).mono ?_; rintro e w' ⟨rfl, rfl⟩)
    | (go_at_call_of 11 (Value.slice A2 ld.length c2); refine (same_true _ _ ld N M _ H2.out H4.out).mono ?_; rintro e w' ⟨rfl, rfl⟩))
  go_ret
  exact ⟨rfl, HO.out⟩

theorem rd_lit (w : World) (N : List Nat) (e : TypeId) (l : List UInt8) (cs : Array Value) (n : Nat) (hc : cs = (ints .u8 (byts l)).toArray) (hn : n = l.length) (hm : n ≤ 1000) (hN : ∀ x ∈ N, x < w.heap.size) :
    Rd (w.alloc (.cells cs e)) N (.slice (some ⟨w.heap.size, 0, none⟩) n n) (ints .u8 (byts l)) := by
  subst hc hn
  have h := rd_new w e N (ints .u8 (byts l)) hN (by rw [ints_length, byts_length]; unfold maxLen; omega)
  rwa [ints_length, byts_length] at h

set_option maxRecDepth 100000 in
theorem awake5 (w : World) : Calls Try.prog 5 #[] w fun e w' => e = .returned (.bool true) ∧ Only [] w w' := by
  have HM := hide (show mkV [10, 0, 0, 1] [10, 0, 0, 2] [7] = ([69, 0, 0, 21, 0, 0, 0, 0, 0, 0, 0, 0, 10, 0, 0, 1, 10, 0, 0, 2, 7], 0) by decide +kernel)
  have r1 := rd_lit w [] 5 [10, 0, 0, 1] #[.int .u8 10, .int .u8 0, .int .u8 0, .int .u8 1] 4 rfl rfl (by omega) (by simp)
  have r2 := rd_lit (w.alloc (.cells #[.int .u8 10, .int .u8 0, .int .u8 0, .int .u8 1] 5)) [] 5 [10, 0, 0, 2] #[.int .u8 10, .int .u8 0, .int .u8 0, .int .u8 2] 4 rfl rfl (by omega) (by simp)
  have r3 := rd_lit ((w.alloc (.cells #[.int .u8 10, .int .u8 0, .int .u8 0, .int .u8 1] 5)).alloc (.cells #[.int .u8 10, .int .u8 0, .int .u8 0, .int .u8 2] 5)) [] 5 [7] #[.int .u8 7] 1 rfl rfl (by omega) (by simp)
  simp only [World.size_alloc] at r2 r3
  have r1 := (r1.only ((Only.refl [] _).alloc (.cells #[.int .u8 10, .int .u8 0, .int .u8 0, .int .u8 2] 5)) (by simp)).only ((Only.refl [] _).alloc (.cells #[.int .u8 7] 5)) (by simp)
  have r2 := r2.only ((Only.refl [] _).alloc (.cells #[.int .u8 7] 5)) (by simp)
  have HC := hide (make_4 _ _ _ _ [] [] [] _ _ _ r1 r2 r3 rfl rfl (by decide))
  have HO := hide ((((Only.refl [] w).alloc (.cells #[.int .u8 10, .int .u8 0, .int .u8 0, .int .u8 1] 5)).alloc (.cells #[.int .u8 10, .int .u8 0, .int .u8 0, .int .u8 2] 5)).alloc (.cells #[.int .u8 7] 5))
  rw [HM.out] at HC
  clear r1 r2 r3
  go_enter Try.func5, Try.ntmps5
  go_wp2_with (go_at_call 12; refine HC.out.mono ?_; rintro e w1 ⟨v1, rfl, how, ho⟩; have HO1 := hide (HO.out.trans ho); have hr := how.rd (N := []) (by simp); obtain ⟨A, cap, rfl, _, _⟩ := hr.formb; obtain ⟨g, o, rfl, hg, _⟩ := rd_some hr (by decide); have k3 := rd_bt hr (show 3 < _ by decide); simp only [show bt [69, 0, 0, 21, 0, 0, 0, 0, 0, 0, 0, 0, 10, 0, 0, 1, 10, 0, 0, 2, 7] 3 = 21 from rfl] at k3; clear how ho hr)
  go_ret
  exact ⟨rfl, HO1.out⟩
end Go.Proofs.Ytgplcojkhacniaa

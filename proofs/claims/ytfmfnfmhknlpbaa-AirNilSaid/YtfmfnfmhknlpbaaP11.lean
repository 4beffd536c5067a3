/-
  Walks and plain words for AirNil (texts An2). No condition beyond those that each theorem states.
-/
import Derived.Lib.SlBytesConst
import Derived.Test.YtfmfnfmhknlpbaaP10
namespace Go.Proofs.Ytfmfnfmhknlpbaa
section
open Go.RowKit Go.Deep

theorem rd_new_mark (w : World) (e : TypeId) (N : List Nat) (xs : List Value) (fr : Nat × Nat) (hN : ∀ x ∈ N, x < w.heap.size) (hm : xs.length ≤ maxLen) : Rd (w.alloc (.cells xs.toArray e fr)) N (.slice (some ⟨w.heap.size, 0, none⟩) xs.length xs.length) xs :=
  ⟨_, _, rfl, Nat.le_refl _, hm, .inr ⟨w.heap.size, 0, rfl, fun h => by have := hN _ h; omega, by simp, fun i x hx => by
    rw [Nat.zero_add, World.cell?_alloc_mark]; simpa using hx⟩⟩
theorem canA_99_new (w : World) (G : Nat) (hG : G = w.heap.size) (g k m sb : Nat) (ha : AirIs g k m sb w) :
    Calls Try.prog 17 #[.pointer (some ⟨g, 0, none⟩), .slice (some ⟨G, 0, none⟩) 2 2] (w.alloc (.cells #[.int .u8 9, .int .u8 9] 5)) (RetB true w) := by
  subst hG
  have ho : Only [] w (w.alloc (.cells #[.int .u8 9, .int .u8 9] 5)) := (Only.refl [] w).alloc _
  exact (canA_99 _ g k m sb _ (rd_new w 5 [] (ints .u8 (byts [9, 9])) (by simp) (by unfold maxLen; show 2 ≤ _; omega)) (ha.only ho (by simp) (by simp) (by simp))).mono fun e w' h => ⟨h.1, ho.trans h.2⟩
theorem canA_a1_new (w : World) (G : Nat) (hG : G = w.heap.size) (g k m sb : Nat) (ha : AirIs g k m sb w) :
    Calls Try.prog 17 #[.pointer (some ⟨g, 0, none⟩), .slice (some ⟨G, 0, none⟩) 20 20] (w.alloc (.cells #[.int .u8 4, .int .u8 0, .int .u8 0, .int .u8 0, .int .u8 7, .int .u8 0, .int .u8 0, .int .u8 0, .int .u8 1, .int .u8 0, .int .u8 0, .int .u8 0, .int .u8 0, .int .u8 0, .int .u8 0, .int .u8 0, .int .u8 2, .int .u8 0, .int .u8 97, .int .u8 49] 5 (20, 21))) (RetB false w) := by
  subst hG
  have ho : Only [] w (w.alloc (.cells #[.int .u8 4, .int .u8 0, .int .u8 0, .int .u8 0, .int .u8 7, .int .u8 0, .int .u8 0, .int .u8 0, .int .u8 1, .int .u8 0, .int .u8 0, .int .u8 0, .int .u8 0, .int .u8 0, .int .u8 0, .int .u8 0, .int .u8 2, .int .u8 0, .int .u8 97, .int .u8 49] 5 (20, 21))) := (Only.refl [] w).alloc _
  exact (canA_a1 _ g k m sb _ (rd_new_mark w 5 [] (ints .u8 (byts [4, 0, 0, 0, 7, 0, 0, 0, 1, 0, 0, 0, 0, 0, 0, 0, 2, 0, 97, 49])) (20, 21) (by simp) (by unfold maxLen; show 20 ≤ _; omega)) (ha.only ho (by simp) (by simp) (by simp))).mono fun e w' h => ⟨h.1, ho.trans h.2⟩
set_option maxRecDepth 100000 in
set_option maxHeartbeats 6400000 in
theorem awake17 (w : World) : Calls Try.prog 10 #[] w (RetB true w) := by
  have HN := hide (newA_any w)
  unfold NewAPost at HN
  have kc := fun (W : World) (C : Array Value) (n c : Nat) => Lib.run_convert_bytes_const (P := Try.prog) W 22 5 C n c Try.underlying22 Try.underlying5
  go_enter Try.func10, Try.ntmps10
  go_wp2_with (first
    | (go_at_call 35; refine HN.out.mono ?_; rintro e w1 ⟨g, k, m, sb, rfl, ha, ho⟩; have HA := hide ha; have HO := hide ho; clear ha ho)
    | (go_at_call 17; (with_reducible refine (canA_99_new _ _ rfl g k m sb HA.out).mono ?_); rintro e w2 ⟨rfl, ho⟩; replace HA := hide (HA.out.only ho (by simp) (by simp) (by simp)); replace HO := hide (HO.out.trans ho); clear ho)
    | (go_at_call 17; (with_reducible refine (canA_a1_new _ _ rfl g k m sb HA.out).mono ?_); rintro e w3 ⟨rfl, ho⟩; replace HO := hide (HO.out.trans ho); clear ho))
  go_ret
  exact retb rfl HO.out
set_option maxRecDepth 100000 in
set_option maxHeartbeats 6400000 in
theorem an_long (w : World) (a b : Int) (A : Option Addr) (n cap : Nat) (s : ByteArray) (hl : 200 < n) :
    Calls Try.prog 4 #[.int .i64 a, .int .i64 b, .slice A n cap, .string s] w (RetB true w) := by
  have HAW := hide (awake17 w)
  unfold RetB at HAW
  have h1 : (200 : Int) < n := by omega
  clear hl
  go_enter Try.func4, Try.ntmps4
  go_wp2_with (go_at_call 10; refine HAW.out.mono ?_; rintro e w1 ⟨rfl, ho⟩; have HO := hide ho; clear ho)
  go_ret
  exact retb rfl HO.out
set_option maxRecDepth 100000 in
set_option maxHeartbeats 6400000 in
theorem an_longt (w : World) (a b : Int) (A : Option Addr) (n cap : Nat) (s : ByteArray) (hl : n ≤ 200) (hs : 200 < s.size) :
    Calls Try.prog 4 #[.int .i64 a, .int .i64 b, .slice A n cap, .string s] w (RetB true w) := by
  have HAW := hide (awake17 w)
  unfold RetB at HAW
  have h1 : ¬ (200 : Int) < n := by omega
  have h2 : (200 : Int) < s.size := by omega
  clear hl hs
  go_enter Try.func4, Try.ntmps4
  go_wp2_with (go_at_call 10; refine HAW.out.mono ?_; rintro e w1 ⟨rfl, ho⟩; have HO := hide ho; clear ho)
  go_ret
  exact retb rfl HO.out
set_option maxRecDepth 100000 in
set_option maxHeartbeats 6400000 in
theorem an_walk (w : World) (a b : Int) (A : Option Addr) (n cap : Nat) (s : ByteArray) (hl : n ≤ 200) (hs : s.size ≤ 200) :
    Calls Try.prog 4 #[.int .i64 a, .int .i64 b, .slice A n cap, .string s] w (RetB true w) := by
  have HAW := hide (awake17 w)
  unfold RetB at HAW
  have h1 : ¬ (200 : Int) < n := by omega
  have h2 : ¬ (200 : Int) < s.size := by omega
  clear hl hs
  go_enter Try.func4, Try.ntmps4
  go_wp2_with (first
    | (go_at_call 10; refine HAW.out.mono ?_; rintro e w1 ⟨rfl, ho⟩; have HO := hide ho; clear ho)
    | (go_at_call 11; refine (air_send_nil _ _ _ _).mono ?_; rintro e wz ⟨rfl, rfl⟩)
    | (go_at_call 12; refine (air_at_nil _ _).mono ?_; rintro e wz ⟨rfl, ho⟩; replace HO := hide ((HO.out.trans ho).alloc (.cells #[.int .i64 0, .int .i64 0, .slice none 0 0, .int .i64 0] 38)); clear ho)
    | (go_at_call 13; refine (air_deliver_nil _ _).mono ?_; rintro e wz ⟨rfl, ho⟩; replace HO := hide ((HO.out.trans ho).alloc (.cells #[.int .i64 0, .int .i64 0, .slice none 0 0, .int .i64 0] 38)); clear ho)
    | (go_at_call 14; refine (air_wait_nil _ _).mono ?_; rintro e wz ⟨rfl, rfl⟩)
    | (go_at_call 15; refine (air_len_nil _).mono ?_; rintro e wz ⟨rfl, rfl⟩)
    | (go_at_call 16; refine (air_tell_nil _ _).mono ?_; rintro e wz ⟨rfl, rfl⟩)
    | (go_at_call 17; refine (air_can_nil _ _).mono ?_; rintro e wz ⟨rfl, rfl⟩)
    | (go_at_call 18; refine (air_knows_nil _ _).mono ?_; rintro e wz ⟨rfl, rfl⟩)
    | (go_at_call 19; refine (air_had_nil _).mono ?_; rintro e wz ⟨rfl, rfl⟩))
  go_ret
  exact retb rfl (by first | exact HO.out | exact HO.out.alloc _ | exact ((HO.out.alloc _).alloc _))
theorem an_law (a : Int) (_wa : (Lit.int .i64 a).wf = true) (b : Int) (_wb : (Lit.int .i64 b).wf = true) (v : Value) (zs : List Int) {w : World} (hv : Rd w [] v (ints .u8 zs)) (_hz : ∀ n ∈ zs, (Lit.int .u8 n).wf = true) (s : ByteArray) (_hs : s.size ≤ maxLen) :
    Calls Try.prog 4 #[.int .i64 a, .int .i64 b, v, .string s] w fun e w' => e = .returned (.bool true) ∧ Only [] w w' := by
  obtain ⟨A, cap, rfl, _, _⟩ := hv.formi
  rcases Nat.lt_or_ge 200 zs.length with h | h
  · exact an_long w a b A _ cap s h
  · rcases Nat.lt_or_ge 200 s.size with h2 | h2
    · exact an_longt w a b A _ cap s h h2
    · exact an_walk w a b A _ cap s h h2
end
end Go.Proofs.Ytfmfnfmhknlpbaa

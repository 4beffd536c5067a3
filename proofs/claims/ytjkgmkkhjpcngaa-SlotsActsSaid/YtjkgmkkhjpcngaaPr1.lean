/-
  pair.New of two terms, at a time, and the small questions on a pair, by walking. Condition: both keys are terms.
-/
import Derived.Test.YtjkgmkkhjpcngaaTm9
namespace Go.Proofs.Ytjkgmkkhjpcngaa
open Go.RowKit Go.Deep

/-- Block g is a pair; block c its window. -/
def PairIs (w : World) (g c : Nat) (s1 s2 : ByteArray) (lo re : Int) (beg : Bool) (made sent : Int) : Prop :=
  Blk w g 119 #[.string s1, .string s2, .int .u32 lo, .int .u32 re, .bool beg, .int .i64 made, .int .u64 sent, .pointer (some ⟨c, 0, none⟩)]
theorem PairIs.only {S : List Nat} {w w' : World} {g c : Nat} {s1 s2 : ByteArray} {lo re : Int} {beg : Bool} {made sent : Int} (h : PairIs w g c s1 s2 lo re beg made sent) (ho : Only S w w') (hg : g ∉ S) : PairIs w' g c s1 s2 lo re beg made sent := Blk.only h ho hg
def winZero : Array Value := (List.replicate 32 (Value.int .u64 0) ++ [Value.int .u64 0, Value.bool false]).toArray
def NewPost (s1 s2 : ByteArray) (lo re : Int) (beg : Bool) (made : Int) (w : World) (e : Ending) (w' : World) : Prop :=
  ∃ g c, e = .returned (.tuple #[.pointer (some ⟨g, 0, none⟩), .int .i64 0]) ∧ w.heap.size ≤ g ∧ w.heap.size ≤ c ∧ g ≠ c ∧ PairIs w' g c s1 s2 lo re beg made 0 ∧ Blk w' c 128 winZero ∧ Only [] w w'
theorem newpost {s1 s2 : ByteArray} {lo re : Int} {beg : Bool} {made : Int} {w w' : World} {g c : Nat} (h1 : w.heap.size ≤ g) (h2 : w.heap.size ≤ c) (h3 : g ≠ c) (h4 : PairIs w' g c s1 s2 lo re beg made 0) (h5 : Blk w' c 128 winZero) (h6 : Only [] w w') :
    NewPost s1 s2 lo re beg made w (.returned (.tuple #[.pointer (some ⟨g, 0, none⟩), .int .i64 0])) w' := ⟨g, c, rfl, h1, h2, h3, h4, h5, h6⟩

def timeV (t : Int) : Bool := decide (0 ≤ t) && decide (t ≤ 1125899906842624)
set_option maxHeartbeats 1600000 in
theorem time_any (t : Int) (w : World) : Calls Try.prog 60 #[.int .i64 t] w fun e w' => e = .returned (.bool (timeV t)) ∧ w = w' := by
  go_enter Try.func60, Try.ntmps60
  go_wp2
  all_goals
    go_ret
    exact ⟨by first | (simp_all [timeV]; done) | (simp_all [timeV]; omega), rfl⟩

set_option maxRecDepth 100000 in
set_option maxHeartbeats 1600000 in
theorem window_new (w : World) : Calls Try.prog 61 #[] w fun e w' => e = .returned (.pointer (some ⟨w.heap.size, 0, none⟩)) ∧ w' = w.alloc (.cells winZero 128) := by
  go_enter Try.func61, Try.ntmps61
  go_wp2
  go_ret
  exact ⟨rfl, rfl⟩

set_option maxRecDepth 100000 in
set_option maxHeartbeats 3200000 in
theorem pair_new (w : World) (s1 s2 : ByteArray) (lo re : Int) (beg : Bool) (made : Int) (h1 : s1.size ≤ maxLen) (h2 : s2.size ≤ maxLen) (hk1 : kindT s1 ≠ 0) (hk2 : kindT s2 ≠ 0) (hm : 0 ≤ made) (hm2 : made ≤ 1125899906842624) :
    Calls Try.prog 51 #[.agg #[.string s1, .string s2], .int .u32 lo, .int .u32 re, .bool beg, .int .i64 made] w (NewPost s1 s2 lo re beg made w) := by
  have HK1 := hide (fun W => Kind_any W s1 h1)
  have HK2 := hide (fun W => Kind_any W s2 h2)
  have t1 : (kindT s1 == 0) = false := by simpa using hk1
  have t2 : (kindT s2 == 0) = false := by simpa using hk2
  have htm : timeV made = true := by unfold timeV; rw [decide_eq_true hm, decide_eq_true hm2]; rfl
  have HTM := hide htm
  have HB := hide (Blk.new w 104 #[.string s1, .string s2])
  have HO := hide ((Only.refl [] w).alloc (.cells #[.string s1, .string s2] 104))
  have k0 := HB.out.cell 0
  have k1 := HB.out.cell 1
  simp at k0 k1
  clear hk1 hk2 h1 h2 htm
  unfold KindPost at HK1 HK2
  generalize kindT s1 = a1 at *
  generalize kindT s2 = a2 at *
  go_enter Try.func51, Try.ntmps51
  go_wp2_with (first
    | (go_at_call 59; (with_reducible refine (HK1.out _).mono ?_); rintro e w1 ⟨rfl, ho⟩; have HO1 := hide (HO.out.trans ho); have HB1 := hide (HB.out.only ho (by simp)); clear k0 k1; have k0 := HB1.out.cell 0; have k1 := HB1.out.cell 1; simp at k0 k1; clear ho)
    | (go_at_call 59; (with_reducible refine (HK2.out _).mono ?_); rintro e w2 ⟨rfl, ho⟩; have HO2 := hide (HO1.out.trans ho); have HB2 := hide (HB1.out.only ho (by simp)); clear k0 k1; have k0 := HB2.out.cell 0; have k1 := HB2.out.cell 1; simp at k0 k1; clear ho)
    | (go_at_call 60; refine (time_any _ _).mono ?_; rintro e w' ⟨rfl, rfl⟩; rw [HTM.out]))
  go_region_held3 (fun w' => w'.cell? ⟨w.heap.size, 0, none⟩ = some (.string s1) ∧ w'.cell? ⟨w.heap.size, 1, none⟩ = some (.string s2)) (first | exact ⟨k0, k1⟩ | exact ⟨j0, j1⟩)
    (first | (go_at_call 61; refine (window_new _).mono ?_; rintro e w3 ⟨rfl, hw3⟩; have HB3 := hide (show Blk w3 w.heap.size 104 #[.string s1, .string s2] by rw [hw3]; exact HB2.out.drew.alloc _); have HW3 := hide (show Blk w3 w2.heap.size 128 winZero by rw [hw3]; exact Blk.new w2.drew _ _); have HO3 := hide (show Only [] w w3 by rw [hw3]; exact HO2.out.drew.alloc _); clear k0 k1 hw3; have k0 := HB3.out.cell 0; have k1 := HB3.out.cell 1; have j0 := (HB3.out.alloc (.cells #[.string s1, .string s2, .int .u32 lo, .int .u32 re, .bool beg, .int .i64 made, .int .u64 0, .pointer (some ⟨w2.heap.size, 0, none⟩)] 119)).cell 0; have j1 := (HB3.out.alloc (.cells #[.string s1, .string s2, .int .u32 lo, .int .u32 re, .bool beg, .int .i64 made, .int .u64 0, .pointer (some ⟨w2.heap.size, 0, none⟩)] 119)).cell 1; simp at k0 k1 j0 j1))
  all_goals
    go_wp2_with fail
    go_ret2
    exact newpost (HO3.out.size) (HO2.out.size) (by have := HW3.out.lt; omega) (Blk.new w3 _ _) (HW3.out.alloc _) (HO3.out.alloc _)
end Go.Proofs.Ytjkgmkkhjpcngaa

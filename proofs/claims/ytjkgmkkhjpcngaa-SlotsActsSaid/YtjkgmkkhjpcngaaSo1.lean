/-
  slots: New, At, Heard, Confirm, and what a nil receiver answers, by walking. Condition: the slots' block, and the pairs that are compared, are known whole.
-/
import Derived.Test.YtjkgmkkhjpcngaaPr1
import Derived.LaidEqlPtr
import Derived.Lib.Builder
namespace Go.Proofs.Ytjkgmkkhjpcngaa
open Go.RowKit Go.Deep

def pv : Option Nat → Value
  | none => .pointer none
  | some b => .pointer (some ⟨b, 0, none⟩)
def SlotsIs (w : World) (S : Nat) (p c n : Option Nat) : Prop := Blk w S 100 #[.pointer none, pv p, pv c, pv n]
/-- A pair's block, known whole. -/
def PairAt (w : World) (g : Nat) : Prop := ∃ cs, w.heap[g]? = some (.cells cs 119 (0, 0))
theorem PairIs.at_ {w : World} {g c : Nat} {s1 s2 : ByteArray} {lo re : Int} {beg : Bool} {made sent : Int} (h : PairIs w g c s1 s2 lo re beg made sent) : PairAt w g := ⟨_, h⟩
theorem PairAt.only {S : List Nat} {w w' : World} {g : Nat} (h : PairAt w g) (ho : Only S w w') (hg : g ∉ S) : PairAt w' g := by
  obtain ⟨cs, h⟩ := h
  exact ⟨cs, Blk.only h ho hg⟩

theorem run_neq_ptr_other {P : Program} (w : World) {tp te : TypeId} {j : TypeInfo} {a b : Addr} {ca cb : Array Value} {ta tb : TypeId} (hp : P.underlying tp = some (.pointer te)) (hte : P.info? te = some j) (hsz : j.size ≠ 0)
    (hne : a ≠ b) (ha : w.heap[a.block]? = some (.cells ca ta (0, 0))) (hb : w.heap[b.block]? = some (.cells cb tb (0, 0))) :
    (binOp .neq tp (.pointer (some a)) (.pointer (some b))).run P w = .ok (.bool true) w := by
  have h : ∀ d : Nat, (Op.equalIn (d + 1) tp (.pointer (some a)) (.pointer (some b))).run P w = .ok false w := fun d => by
    simp [Op.equalIn, run_underlying hp, sizeOf, typeInfo, hte, hsz, run_sameAddr_other w hne ha hb]
  simp only [binOp]
  simp [Op.equal, Op.maxDepth, h 9999]
theorem pair_info : ∃ j, Try.prog.info? 119 = some j ∧ j.size ≠ 0 := by
  have h : (Try.prog.info? 119).map (·.size) = some 8 := by kernel_rfl
  cases hq : Try.prog.info? 119 with
  | none => rw [hq] at h; cases h
  | some j => rw [hq] at h; simp at h; exact ⟨j, rfl, by omega⟩
theorem neq_same (W : World) (g : Nat) : (binOp .neq 61 (.pointer (some ⟨g, 0, none⟩)) (.pointer (some ⟨g, 0, none⟩))).run Try.prog W = .ok (.bool false) W := by
  obtain ⟨j, hj, _⟩ := pair_info
  exact Lib.run_neq_ptr_same W _ Try.underlying61 hj
theorem eql_same (W : World) (g : Nat) : (binOp .eql 61 (.pointer (some ⟨g, 0, none⟩)) (.pointer (some ⟨g, 0, none⟩))).run Try.prog W = .ok (.bool true) W := by
  obtain ⟨j, hj, _⟩ := pair_info
  exact run_eql_ptr_same W _ Try.underlying61 hj
theorem neq_other {W : World} {g m : Nat} (h : g ≠ m) (hg : PairAt W g) (hm : PairAt W m) : (binOp .neq 61 (.pointer (some ⟨g, 0, none⟩)) (.pointer (some ⟨m, 0, none⟩))).run Try.prog W = .ok (.bool true) W := by
  obtain ⟨j, hj, hs⟩ := pair_info
  obtain ⟨_, hg⟩ := hg
  obtain ⟨_, hm⟩ := hm
  exact run_neq_ptr_other W Try.underlying61 hj hs (by simp [h]) hg hm

set_option maxHeartbeats 1600000 in
theorem slots_new (w : World) : Calls Try.prog 23 #[] w fun e w' => ∃ S, e = .returned (.pointer (some ⟨S, 0, none⟩)) ∧ w.heap.size ≤ S ∧ SlotsIs w' S none none none ∧ Only [] w w' := by
  go_enter Try.func23, Try.ntmps23
  go_wp2
  go_ret
  exact ⟨_, rfl, Nat.le_refl _, Blk.new w _ _, (Only.refl [] w).alloc _⟩
theorem at_nil (k : Int) (w : World) : Calls Try.prog 32 #[.pointer none, .int .i64 k] w fun e w' => e = .returned (.pointer none) ∧ w = w' := by
  go_enter Try.func32, Try.ntmps32
  go_wp2
  all_goals
    go_ret
    exact ⟨rfl, rfl⟩
theorem begun_nil (v : Value) (w : World) : Calls Try.prog 25 #[.pointer none, v] w fun e w' => e = .returned (.int .i64 1) ∧ w = w' := by
  go_enter Try.func25, Try.ntmps25
  go_wp2
  all_goals
    go_ret
    exact ⟨rfl, rfl⟩
theorem begun_none (a : Addr) (w : World) : Calls Try.prog 25 #[.pointer (some a), .pointer none] w fun e w' => e = .returned (.int .i64 1) ∧ w = w' := by
  go_enter Try.func25, Try.ntmps25
  go_wp2
  all_goals
    go_ret
    exact ⟨rfl, rfl⟩
theorem heard_nil (v : Value) (w : World) : Calls Try.prog 27 #[.pointer none, v] w fun e w' => e = .returned (.int .i64 1) ∧ w = w' := by
  go_enter Try.func27, Try.ntmps27
  go_wp2
  all_goals
    go_ret
    exact ⟨rfl, rfl⟩
theorem heard_none (a : Addr) (w : World) : Calls Try.prog 27 #[.pointer (some a), .pointer none] w fun e w' => e = .returned (.int .i64 1) ∧ w = w' := by
  go_enter Try.func27, Try.ntmps27
  go_wp2
  all_goals
    go_ret
    exact ⟨rfl, rfl⟩
theorem confirm_nil (v : Value) (w : World) : Calls Try.prog 28 #[.pointer none, v] w fun e w' => e = .returned (.bool false) ∧ w = w' := by
  go_enter Try.func28, Try.ntmps28
  go_wp2
  all_goals
    go_ret
    exact ⟨rfl, rfl⟩
theorem confirm_none (a : Addr) (w : World) : Calls Try.prog 28 #[.pointer (some a), .pointer none] w fun e w' => e = .returned (.bool false) ∧ w = w' := by
  go_enter Try.func28, Try.ntmps28
  go_wp2
  all_goals
    go_ret
    exact ⟨rfl, rfl⟩
theorem find_nil (k : Int) (w : World) : Calls Try.prog 35 #[.pointer none, .int .u32 k] w fun e w' => e = .returned (.tuple #[.pointer none, .int .i64 0]) ∧ w = w' := by
  go_enter Try.func35, Try.ntmps35
  go_wp2
  all_goals
    go_ret2
    exact ⟨rfl, rfl⟩
theorem newest_nil (w : World) : Calls Try.prog 36 #[.pointer none] w fun e w' => e = .returned (.tuple #[.int .i64 0, .bool false]) ∧ w = w' := by
  go_enter Try.func36, Try.ntmps36
  go_wp2
  all_goals
    go_ret2
    exact ⟨rfl, rfl⟩
theorem usable_nil (k : Int) (w : World) : Calls Try.prog 37 #[.pointer none, .int .i64 k] w fun e w' => e = .returned (.pointer none) ∧ w = w' := by
  go_enter Try.func37, Try.ntmps37
  go_wp2
  all_goals
    go_ret
    exact ⟨rfl, rfl⟩
theorem erase_nil (w : World) : Calls Try.prog 30 #[.pointer none] w fun e w' => e = .returned (.int .i64 0) ∧ w = w' := by
  go_enter Try.func30, Try.ntmps30
  go_wp2
  all_goals
    go_ret
    exact ⟨rfl, rfl⟩

set_option maxHeartbeats 1600000 in
theorem heard_any (w : World) (S : Nat) (p c n : Option Nat) (g : Nat) (h : SlotsIs w S p c n) :
    Calls Try.prog 27 #[.pointer (some ⟨S, 0, none⟩), .pointer (some ⟨g, 0, none⟩)] w fun e w' => e = .returned (.int .i64 0) ∧ SlotsIs w' S p c (some g) ∧ Only [S] w w' := by
  have k3 := h.cell 3
  have f3 := h.frozen 3
  simp at k3
  have HS := hide h
  clear h
  go_enter Try.func27, Try.ntmps27
  go_wp2
  go_ret
  exact ⟨rfl, HS.out.set_ 3 _, (Only.refl [S] w).setCell (p := ⟨S, 3, none⟩) (.inl (by simp)) _⟩
end Go.Proofs.Ytjkgmkkhjpcngaa

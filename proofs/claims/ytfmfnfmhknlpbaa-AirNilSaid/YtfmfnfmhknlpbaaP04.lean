/-
  Walks and plain words for AirNil (texts Ret, Kn3, An0, Wa, Wb, Wc, Kz). No condition beyond those that each theorem states.
-/
import Derived.Test.YtfmfnfmhknlpbaaChecked
import Derived.Deep.RegionHeld3
import Derived.Test.YtfmfnfmhknlpbaaP03
namespace Go.Proofs.Ytfmfnfmhknlpbaa
section
open Go.RowKit Go.Deep

def RetB (r : Bool) (w : World) (e : Ending) (w' : World) : Prop := e = .returned (.bool r) ∧ Only [] w w'
theorem retb {r s : Bool} {w w' : World} (h : r = s) (ho : Only [] w w') : RetB r w (.returned (.bool s)) w' := by subst h; exact ⟨rfl, ho⟩
theorem results_cell_two {P : Program} {fn : Func} {p q : Tmp} {ty : TypeId} (h : fn.results = #[.cell p ty, .tmp q]) (tmps : Array Value) (w : World) (g : Nat) (t : TypeId) (cs : Array Value) (fr : Nat × Nat) (d : TypeDesc)
    (hp : tmps.getD p undef = .pointer (some ⟨g, 0, none⟩)) (hg : w.heap[g]? = some (.cells cs t fr))
    (hu : P.underlying ty = some d) (hd : (match d with | .struct _ | .array _ _ => true | _ => false) = true) (hi : (P.info? ty).map (·.size) = some cs.size) :
    (results fn tmps).run P w = .ok (.tuple #[.agg cs, tmps.getD q undef]) w := by
  have hp' : tmps[p]?.getD undef = .pointer (some ⟨g, 0, none⟩) := by simpa using hp
  simp [results, h, hp', asAddr, run_loadVar_row w g t ty cs fr d hg hu hd hi]
end
section
open Go.RowKit Go.Deep Go.Maps Go.WideMaps

/-- A slice, as an element of a map: by its own numbers. -/
def sliceElem : Value → Option (DataW Unit × List MemPlace)
  | .slice (some ⟨b, o, none⟩) n c => some (.agg [.lit (.int .i64 b), .lit (.int .i64 o), .lit (.int .i64 n), .lit (.int .i64 c)], [])
  | .slice none 0 0 => some (.nil, [])
  | _ => none
def Shut (sb n : Nat) (D : DataW Unit) (w : World) : Prop := w.ownsMap Try.prog 9 sliceElem sb n D
theorem Shut.only {S : List Nat} {m n : Nat} {D : DataW Unit} {w w' : World} (h : Shut m n D w) (ho : Only S w w') (hm : m ∉ S) : Shut m n D w' := by
  have hlt := World.ownsMap.lt h
  obtain ⟨es, clock, hb, F, hs, hD⟩ := h
  exact ⟨es, clock, (ho.block m hlt hm).trans hb, F, hs, hD⟩
def NewKPost (w : World) (e : Ending) (w' : World) : Prop := e = .returned (.pointer (some ⟨w.heap.size + 2, 0, none⟩)) ∧ KnowIs (w.heap.size + 2) w.heap.size 0 (w.heap.size + 1) (.map []) (.slice none 0 0) w' ∧ Shut (w.heap.size + 1) 0 (.map []) w' ∧ Only [] w w'
set_option maxRecDepth 100000 in
set_option maxHeartbeats 6400000 in
theorem newK_any (w : World) : Calls Try.prog 26 #[] w (NewKPost w) := by
  have hmm := @run_makeMap Try.prog
  have HH := hide (show Had w.heap.size 0 (.map []) (w.alloc (.map #[] 0)) from World.ownsMap_made _ _ _ _)
  have HS := hide (show Shut (w.heap.size + 1) 0 (.map []) ((w.alloc (.map #[] 0)).alloc (.map #[] 0)) from by
    have h := World.ownsMap_made (H := Unit) (w.alloc (.map #[] 0)) Try.prog 9 sliceElem
    rw [World.size_alloc] at h
    exact h)
  have HO := hide ((Only.refl [] w).alloc (.map #[] 0))
  go_enter Try.func26, Try.ntmps26
  go_wp2_with fail
  go_ret
  refine ⟨rfl, ⟨?_, HH.out.only (((Only.refl [] _).alloc _).alloc _) (by simp)⟩, HS.out.only ((Only.refl [] _).alloc _) (by simp), (HO.out.alloc _).alloc _⟩
  have h := Blk.new ((w.alloc (.map #[] 0)).alloc (.map #[] 0)) 86 #[.map (some w.heap.size), .map (some (w.heap.size + 1)), .slice none 0 0]
  rw [World.size_alloc, World.size_alloc] at h
  exact h
set_option maxRecDepth 100000 in
set_option maxHeartbeats 6400000 in
theorem made_atom (w : World) (k m n sb : Nat) (D : DataW Unit) (keys : Value) (s : ByteArray) (hk : KnowIs k m n sb D keys w) (hp : 0 < s.size) (hs : s.size ≤ maxLen) (hc : ((s[0].toNat : Int) == 97) = true) :
    Calls Try.prog 43 #[.pointer (some ⟨k, 0, none⟩), .string s] w (RetB (hadB D (s.extract 0 (send s 1))) w) := by
  have hc0 : (s[0].toNat : Int) = 97 := by rw [beq_iff_eq] at hc; exact hc
  have HK := hide (hk.only ((Only.refl [] w).alloc (.cells #[.pointer (some ⟨k, 0, none⟩), .string s, .int .i64 0] 105)) (by simp) (by simp))
  have HB := hide (show KAt w.heap.size (some ⟨k, 0, none⟩) s 0 _ from Blk.new w 105 #[.pointer (some ⟨k, 0, none⟩), .string s, .int .i64 0])
  have hkl := hk.1.lt
  have hml := World.ownsMap.lt hk.2
  have HO := hide ((Only.refl [] w).alloc (.cells #[.pointer (some ⟨k, 0, none⟩), .string s, .int .i64 0] 105))
  have HR := hide (read_atom _ w.heap.size k m n sb D keys s 0 HB.out HK.out (by omega) (by omega) hp hs (by rw [hc0]; rfl) (by rw [hc0]; rfl) (by rw [hc0]; rfl) hc (by rw [hc0]; rfl))
  unfold ReadKPost at HR
  clear hk hc hc0 hp hs hkl hml
  go_enter Try.func43, Try.ntmps43
  go_wp2_with (go_at_call 67; refine HR.out.mono ?_; rintro e w1 ⟨rfl, _, ho⟩; replace HO := hide ((HO.out.mono (S' := [w.heap.size]) (by simp)).trans ho |>.mono (S' := []) (by simp)); clear ho)
  go_ret
  exact retb rfl HO.out
theorem CanK_atom (w : World) (k m n sb : Nat) (D : DataW Unit) (keys : Value) (s : ByteArray) (hk : KnowIs k m n sb D keys w) (hp : 0 < s.size) (hs : s.size ≤ maxLen) (hc : ((s[0].toNat : Int) == 97) = true) (hkd : kindT s ≠ 0) :
    Calls Try.prog 22 #[.pointer (some ⟨k, 0, none⟩), .string s] w (RetB (hadB D (s.extract 0 (send s 1))) w) := by
  have HM := hide (fun W (h : KnowIs k m n sb D keys W) => made_atom W k m n sb D keys s h hp hs hc)
  have HKK := hide (Kind_any w s hs)
  unfold RetB at HM
  unfold KindPost at HKK
  have hk0 : (kindT s == 0) = false := by rw [beq_eq_false_iff_ne]; exact hkd
  have HK := hide hk
  clear hk hkd hc hp hs
  go_enter Try.func22, Try.ntmps22
  go_wp2_with (first
    | (go_at_call 39; refine HKK.out.mono ?_; rintro e w1 ⟨rfl, ho⟩; replace HK := hide (HK.out.only ho (by simp) (by simp)); have HO := hide ho; clear ho)
    | (go_at_call 43; refine (HM.out _ HK.out).mono ?_; rintro e w2 ⟨rfl, ho⟩; replace HO := hide (HO.out.trans ho); clear ho))
  go_ret
  exact retb rfl HO.out
end
section
open Go.RowKit Go.Deep

theorem air_has_nil (w : World) (i : Int) : Calls Try.prog 38 #[.pointer none, .int .i64 i] w fun e w' => e = .returned (.bool false) ∧ w = w' := by
  go_enter Try.func38, Try.ntmps38
  go_wp2_with fail
  go_ret
  exact ⟨rfl, rfl⟩
theorem air_send_nil (w : World) (a b : Int) (v : Value) : Calls Try.prog 11 #[.pointer none, .int .i64 a, .int .i64 b, v] w fun e w' => e = .returned (.tuple #[.int .i64 0, .int .i64 1]) ∧ w = w' := by
  go_enter Try.func11, Try.ntmps11
  go_wp2_with fail
  go_ret2
  exact ⟨rfl, rfl⟩
theorem air_wait_nil (w : World) (a : Int) : Calls Try.prog 14 #[.pointer none, .int .i64 a] w fun e w' => e = .returned (.slice none 0 0) ∧ w = w' := by
  go_enter Try.func14, Try.ntmps14
  go_wp2_with fail
  go_ret
  exact ⟨rfl, rfl⟩
theorem air_len_nil (w : World) : Calls Try.prog 15 #[.pointer none] w fun e w' => e = .returned (.int .i64 0) ∧ w = w' := by
  go_enter Try.func15, Try.ntmps15
  go_wp2_with fail
  go_ret
  exact ⟨rfl, rfl⟩
theorem air_tell_nil (w : World) (v : Value) : Calls Try.prog 16 #[.pointer none, v] w fun e w' => e = .returned (.int .i64 1) ∧ w = w' := by
  go_enter Try.func16, Try.ntmps16
  go_wp2_with fail
  go_ret
  exact ⟨rfl, rfl⟩
theorem air_can_nil (w : World) (v : Value) : Calls Try.prog 17 #[.pointer none, v] w fun e w' => e = .returned (.bool false) ∧ w = w' := by
  go_enter Try.func17, Try.ntmps17
  go_wp2_with fail
  go_ret
  exact ⟨rfl, rfl⟩
theorem air_knows_nil (w : World) (s : ByteArray) : Calls Try.prog 18 #[.pointer none, .string s] w fun e w' => e = .returned (.bool false) ∧ w = w' := by
  go_enter Try.func18, Try.ntmps18
  go_wp2_with fail
  go_ret
  exact ⟨rfl, rfl⟩
theorem air_had_nil (w : World) : Calls Try.prog 19 #[.pointer none] w fun e w' => e = .returned (.int .i64 0) ∧ w = w' := by
  go_enter Try.func19, Try.ntmps19
  go_wp2_with fail
  go_ret
  exact ⟨rfl, rfl⟩
set_option maxRecDepth 100000 in
set_option maxHeartbeats 6400000 in
theorem air_at_nil (w : World) (i : Int) : Calls Try.prog 12 #[.pointer none, .int .i64 i] w fun e w' => e = .returned (.tuple #[.agg #[.int .i64 0, .int .i64 0, .slice none 0 0, .int .i64 0], .bool false]) ∧ Only [] w w' := by
  have HB := hide (Blk.new w 38 #[.int .i64 0, .int .i64 0, .slice none 0 0, .int .i64 0])
  have HO := hide (((Only.refl [w.heap.size] w).alloc (.cells #[.int .i64 0, .int .i64 0, .slice none 0 0, .int .i64 0] 38)))
  go_enter Try.func12, Try.ntmps12
  go_wp2_with (go_at_call 38; refine (air_has_nil _ _).mono ?_; rintro e w1 ⟨rfl, rfl⟩)
  refine bodyPost_ret (results_cell_two rfl _ _ w.heap.size 38 _ (0, 0) _ rfl HB.out Try.underlying38 rfl (by kernel_rfl)) rfl ?_
  exact ⟨rfl, HO.out.mono (by simp)⟩
set_option maxRecDepth 100000 in
set_option maxHeartbeats 6400000 in
theorem air_deliver_nil (w : World) (i : Int) : Calls Try.prog 13 #[.pointer none, .int .i64 i] w fun e w' => e = .returned (.tuple #[.agg #[.int .i64 0, .int .i64 0, .slice none 0 0, .int .i64 0], .int .i64 1]) ∧ Only [] w w' := by
  have HB := hide (Blk.new w 38 #[.int .i64 0, .int .i64 0, .slice none 0 0, .int .i64 0])
  have HO := hide (((Only.refl [w.heap.size] w).alloc (.cells #[.int .i64 0, .int .i64 0, .slice none 0 0, .int .i64 0] 38)))
  go_enter Try.func13, Try.ntmps13
  go_wp2_with (go_at_call 38; refine (air_has_nil _ _).mono ?_; rintro e w1 ⟨rfl, rfl⟩)
  refine bodyPost_ret (results_cell_two rfl _ _ w.heap.size 38 _ (0, 0) _ rfl HB.out Try.underlying38 rfl (by kernel_rfl)) rfl ?_
  exact ⟨rfl, HO.out.mono (by simp)⟩
end
section
open Go.RowKit Go.Deep

/-- A function without captured places, as a value. -/
abbrev fnV (f : FuncId) : Value := .func (.func f) #[] #[]
/-- A field of four bytes, whose place is told by the closure in the block b. -/
abbrev numF (b : Nat) : Value := .agg #[.int .i64 4, .func (.func 70) #[] #[.pointer (some ⟨b, 0, none⟩)], .func (.func 71) #[] #[.pointer (some ⟨b, 0, none⟩)], .nilFunc]
def numC (b : Nat) : List Value := [.int .i64 4, .func (.func 70) #[] #[.pointer (some ⟨b, 0, none⟩)], .func (.func 71) #[] #[.pointer (some ⟨b, 0, none⟩)], .nilFunc]

set_option maxHeartbeats 1600000 in
theorem wnumber_any (f : FuncId) (w : World) : Calls Try.prog 46 #[fnV f] w fun e w' => e = .returned (numF w.heap.size) ∧ Blk w' w.heap.size 91 #[fnV f] ∧ w.heap.size < w'.heap.size ∧ Only [] w w' := by
  have hst := fun (W : World) (a : Addr) (fn : Fn) (c : Array Value) => (run_store Try.prog W a (.func fn #[] c) .plain rfl : (store a (.func fn #[] c)).run Try.prog W = stored Try.prog W a (.func fn #[] c) .plain)
  have hsn := fun (W : World) (a : Addr) => (run_store Try.prog W a .nilFunc .plain rfl : (store a .nilFunc).run Try.prog W = stored Try.prog W a .nilFunc .plain)
  have HB := hide ((Blk.new w 91 #[fnV f]).alloc (.cells (numC w.heap.size).toArray 63))
  have HF := hide (Blk.new (w.alloc (.cells #[fnV f] 91)) 63 (numC w.heap.size).toArray)
  rw [World.size_alloc] at HF
  have HO := hide (((Only.refl [] w).alloc (.cells #[fnV f] 91)).alloc (.cells (numC w.heap.size).toArray 63))
  go_enter Try.func46, Try.ntmps46
  go_wp2
  refine bodyPost_ret (results_cell_row rfl _ _ (w.heap.size + 1) 63 _ (0, 0) _ rfl HF.out Try.underlying63 rfl (by kernel_rfl)) rfl ?_
  exact ⟨rfl, HB.out, (by simp; omega), HO.out⟩
set_option maxRecDepth 100000 in
theorem numget1 (M b : Nat) (x : Nat) (w : World) (h : w.cell? ⟨b, 0, none⟩ = some (fnV 47)) (h2 : w.cell? ⟨M, 1, none⟩ = some (.int .u32 x)) (hx : x < 4294967296) :
    Calls Try.prog 70 #[.pointer (some ⟨M, 0, none⟩), .pointer (some ⟨b, 0, none⟩)] w fun e w' => e = .returned (.int .u64 x) ∧ w = w' := by
  have hw : IntKind.u64.wrap (x : Int) = x := by rw [IntKind.wrap_u64]; omega
  clear hx
  go_enter Try.func70, Try.ntmps70
  go_wp2
  go_ret
  exact ⟨rfl, rfl⟩
set_option maxRecDepth 100000 in
theorem numset1 (M b : Nat) (x : Nat) (w : World) (h : w.cell? ⟨b, 0, none⟩ = some (fnV 47)) {y : Nat} (h2 : w.cell? ⟨M, 1, none⟩ = some (.int .u32 y)) (hf : w.frozen? ⟨M, 1, none⟩ = false) (hx : x < 4294967296) :
    Calls Try.prog 71 #[.pointer (some ⟨M, 0, none⟩), .int .u64 x, .pointer (some ⟨b, 0, none⟩)] w fun e w' => e = .returned (.tuple #[]) ∧ w' = w.setCell ⟨M, 1, none⟩ (.int .u32 x) := by
  have hw : IntKind.u32.wrap (x : Int) = x := by rw [IntKind.wrap_u32]; omega
  clear hx
  go_enter Try.func71, Try.ntmps71
  go_wp2
  go_end0
  exact ⟨rfl, rfl⟩
set_option maxRecDepth 100000 in
theorem numget2 (M b : Nat) (x : Nat) (w : World) (h : w.cell? ⟨b, 0, none⟩ = some (fnV 48)) (h2 : w.cell? ⟨M, 2, none⟩ = some (.int .u32 x)) (hx : x < 4294967296) :
    Calls Try.prog 70 #[.pointer (some ⟨M, 0, none⟩), .pointer (some ⟨b, 0, none⟩)] w fun e w' => e = .returned (.int .u64 x) ∧ w = w' := by
  have hw : IntKind.u64.wrap (x : Int) = x := by rw [IntKind.wrap_u64]; omega
  clear hx
  go_enter Try.func70, Try.ntmps70
  go_wp2
  go_ret
  exact ⟨rfl, rfl⟩
set_option maxRecDepth 100000 in
theorem numset2 (M b : Nat) (x : Nat) (w : World) (h : w.cell? ⟨b, 0, none⟩ = some (fnV 48)) {y : Nat} (h2 : w.cell? ⟨M, 2, none⟩ = some (.int .u32 y)) (hf : w.frozen? ⟨M, 2, none⟩ = false) (hx : x < 4294967296) :
    Calls Try.prog 71 #[.pointer (some ⟨M, 0, none⟩), .int .u64 x, .pointer (some ⟨b, 0, none⟩)] w fun e w' => e = .returned (.tuple #[]) ∧ w' = w.setCell ⟨M, 2, none⟩ (.int .u32 x) := by
  have hw : IntKind.u32.wrap (x : Int) = x := by rw [IntKind.wrap_u32]; omega
  clear hx
  go_enter Try.func71, Try.ntmps71
  go_wp2
  go_end0
  exact ⟨rfl, rfl⟩
theorem place4 (M : Nat) (w : World) : Calls Try.prog 49 #[.pointer (some ⟨M, 0, none⟩)] w fun e w' => e = .returned (.pointer (some ⟨M, 4, none⟩)) ∧ w = w' := by
  go_enter Try.func49, Try.ntmps49
  go_wp2
  go_ret
  exact ⟨rfl, rfl⟩
theorem place11 (M : Nat) (w : World) : Calls Try.prog 50 #[.pointer (some ⟨M, 0, none⟩)] w fun e w' => e = .returned (.pointer (some ⟨M, 11, none⟩)) ∧ w = w' := by
  go_enter Try.func50, Try.ntmps50
  go_wp2
  go_ret
  exact ⟨rfl, rfl⟩
theorem place12 (M : Nat) (w : World) : Calls Try.prog 51 #[.pointer (some ⟨M, 0, none⟩)] w fun e w' => e = .returned (.pointer (some ⟨M, 12, none⟩)) ∧ w = w' := by
  go_enter Try.func51, Try.ntmps51
  go_wp2
  go_ret
  exact ⟨rfl, rfl⟩
theorem place5 (M : Nat) (w : World) : Calls Try.prog 52 #[.pointer (some ⟨M, 0, none⟩)] w fun e w' => e = .returned (.pointer (some ⟨M, 5, none⟩)) ∧ w = w' := by
  go_enter Try.func52, Try.ntmps52
  go_wp2
  go_ret
  exact ⟨rfl, rfl⟩
theorem place6 (M : Nat) (w : World) : Calls Try.prog 53 #[.pointer (some ⟨M, 0, none⟩)] w fun e w' => e = .returned (.pointer (some ⟨M, 6, none⟩)) ∧ w = w' := by
  go_enter Try.func53, Try.ntmps53
  go_wp2
  go_ret
  exact ⟨rfl, rfl⟩
theorem place7 (M : Nat) (w : World) : Calls Try.prog 54 #[.pointer (some ⟨M, 0, none⟩)] w fun e w' => e = .returned (.pointer (some ⟨M, 7, none⟩)) ∧ w = w' := by
  go_enter Try.func54, Try.ntmps54
  go_wp2
  go_ret
  exact ⟨rfl, rfl⟩
theorem place8 (M : Nat) (w : World) : Calls Try.prog 55 #[.pointer (some ⟨M, 0, none⟩)] w fun e w' => e = .returned (.pointer (some ⟨M, 8, none⟩)) ∧ w = w' := by
  go_enter Try.func55, Try.ntmps55
  go_wp2
  go_ret
  exact ⟨rfl, rfl⟩
theorem place9 (M : Nat) (w : World) : Calls Try.prog 56 #[.pointer (some ⟨M, 0, none⟩)] w fun e w' => e = .returned (.pointer (some ⟨M, 9, none⟩)) ∧ w = w' := by
  go_enter Try.func56, Try.ntmps56
  go_wp2
  go_ret
  exact ⟨rfl, rfl⟩
theorem place10 (M : Nat) (w : World) : Calls Try.prog 59 #[.pointer (some ⟨M, 0, none⟩)] w fun e w' => e = .returned (.pointer (some ⟨M, 10, none⟩)) ∧ w = w' := by
  go_enter Try.func59, Try.ntmps59
  go_wp2
  go_ret
  exact ⟨rfl, rfl⟩
set_option maxHeartbeats 1600000 in
theorem cntget (M : Nat) (x : Nat) (w : World) (h2 : w.cell? ⟨M, 3, none⟩ = some (.int .u64 x)) :
    Calls Try.prog 57 #[.pointer (some ⟨M, 0, none⟩)] w fun e w' => e = .returned (.int .u64 x) ∧ w = w' := by
  go_enter Try.func57, Try.ntmps57
  go_wp2
  go_ret
  exact ⟨rfl, rfl⟩
theorem cntset (M : Nat) (x : Nat) (w : World) {y : Nat} (h2 : w.cell? ⟨M, 3, none⟩ = some (.int .u64 y)) (hf : w.frozen? ⟨M, 3, none⟩ = false) :
    Calls Try.prog 58 #[.pointer (some ⟨M, 0, none⟩), .int .u64 x] w fun e w' => e = .returned (.tuple #[]) ∧ w' = w.setCell ⟨M, 3, none⟩ (.int .u64 x) := by
  go_enter Try.func58, Try.ntmps58
  go_wp2
  go_end0
  exact ⟨rfl, rfl⟩
end
section
open Go.RowKit Go.Deep

def txtC (f : FuncId) : List Value := [.int .i64 0, .nilFunc, .nilFunc, fnV f]
def cntC : List Value := [.int .i64 8, fnV 57, fnV 58, .nilFunc]
def row1C (b1 _b2 : Nat) : List Value := numC b1 ++ txtC 49 ++ txtC 52 ++ txtC 53 ++ txtC 50 ++ txtC 51
def row2C (b1 b2 : Nat) : List Value := numC b1 ++ numC b2 ++ txtC 49 ++ txtC 54 ++ txtC 50 ++ txtC 51
def row3C (_b1 b2 : Nat) : List Value := numC b2 ++ txtC 55 ++ txtC 56
def row4C (_b1 b2 : Nat) : List Value := numC b2 ++ cntC ++ txtC 59
theorem blk_new' {w : World} {g : Nat} {t : TypeId} {cs : Array Value} (h : g = w.heap.size) : Blk (w.alloc (.cells cs t)) g t cs := h ▸ Blk.new w t cs
/-- What row hands back: a row of fields in a block of its own; the two closures' places. -/
def RowPost (n : Nat) (C : Nat → Nat → List Value) (w : World) (e : Ending) (w' : World) : Prop :=
  ∃ g b1 b2, e = .returned (.slice (some ⟨g, 0, none⟩) n n) ∧ w.heap.size ≤ g ∧ w.heap.size ≤ b1 ∧ w.heap.size ≤ b2 ∧ Blk w' g 63 (C b1 b2).toArray ∧
    Blk w' b1 91 #[fnV 47] ∧ Blk w' b2 91 #[fnV 48] ∧ Only [] w w'
theorem rowpost {n : Nat} {C : Nat → Nat → List Value} {w w' : World} {g b1 b2 : Nat} (h1 : w.heap.size ≤ g) (h2 : w.heap.size ≤ b1) (h3 : w.heap.size ≤ b2) (h4 : Blk w' g 63 (C b1 b2).toArray)
    (h5 : Blk w' b1 91 #[fnV 47]) (h6 : Blk w' b2 91 #[fnV 48]) (h7 : Only [] w w') : RowPost n C w (.returned (.slice (some ⟨g, 0, none⟩) n n)) w' :=
  ⟨g, b1, b2, rfl, h1, h2, h3, h4, h5, h6, h7⟩

set_option maxRecDepth 100000 in
set_option maxHeartbeats 3200000 in
theorem row_1 (w : World) : Calls Try.prog 28 #[.int .i64 1] w (RowPost 6 row1C w) := by
  have hst := fun (W : World) (a : Addr) (fn : Fn) (c : Array Value) => (run_store Try.prog W a (.func fn #[] c) .plain rfl : (store a (.func fn #[] c)).run Try.prog W = stored Try.prog W a (.func fn #[] c) .plain)
  have hsn := fun (W : World) (a : Addr) => (run_store Try.prog W a .nilFunc .plain rfl : (store a .nilFunc).run Try.prog W = stored Try.prog W a .nilFunc .plain)
  go_enter Try.func28, Try.ntmps28
  go_upto_region 10 with (go_at_call 46; refine (wnumber_any _ _).mono ?_; (first
    | (rintro e w1 ⟨rfl, hb1, hs1, ho1⟩; have HS0 : Hid (Blk w1 w.heap.size _ #[fnV 47]) := hide hb1; have HZ := hide hs1; have HF := hide (Blk.new w1 63 (numC w.heap.size).toArray); have HS := hide (HS0.out.alloc (.cells (numC w.heap.size).toArray 63)); have HO := hide (ho1.alloc (.cells (numC w.heap.size).toArray 63)); clear hb1 hs1 ho1)
    | (rintro e w2 ⟨rfl, hb1, hs1, ho1⟩; rw [World.size_alloc] at hb1 hs1; have HR : Hid (Blk w2 (w1.heap.size + 1) _ #[fnV 48]) := hide hb1; have HZ2 := hide hs1; have HS := hide (HS.out.only ho1 (by simp)); have HF := hide (HF.out.only ho1 (by simp)); have HO := hide (HO.out.trans ho1); clear hb1 hs1 ho1)))
  generalize hW : ((((((w2.alloc (.cells #[.int .i64 4, .func (.func 70) #[] #[.pointer (some ⟨w1.heap.size + 1, 0, none⟩)], .func (.func 71) #[] #[.pointer (some ⟨w1.heap.size + 1, 0, none⟩)], .nilFunc] 63)).alloc (.cells #[.int .i64 0, .nilFunc, .nilFunc, .func (.func 49) #[] #[]] 63)).alloc (.cells #[.int .i64 0, .nilFunc, .nilFunc, .func (.func 50) #[] #[]] 63)).alloc (.cells #[.int .i64 0, .nilFunc, .nilFunc, .func (.func 51) #[] #[]] 63)).alloc (.cells #[.int .i64 0, .nilFunc, .nilFunc, .func (.func 52) #[] #[]] 63)).alloc (.cells #[.int .i64 0, .nilFunc, .nilFunc, .func (.func 53) #[] #[]] 63)) = wq at *
  have HW := hide hW
  clear hW
  have HS := hide (show Blk wq w.heap.size _ #[fnV 47] from by rw [← HW.out]; repeat (first | exact HS.out | apply Blk.alloc))
  have HR := hide (show Blk wq (w1.heap.size + 1) _ #[fnV 48] from by rw [← HW.out]; repeat (first | exact HR.out | apply Blk.alloc))
  have HO := hide (show Only [] w wq from by rw [← HW.out]; repeat (first | exact HO.out | apply Only.alloc))
  have HF := hide (show Blk wq w1.heap.size 63 (numC w.heap.size).toArray from by rw [← HW.out]; repeat (first | exact HF.out | apply Blk.alloc))
  have s0 := HF.out.cell 0; have s1 := HF.out.cell 1; have s2 := HF.out.cell 2; have s3 := HF.out.cell 3
  simp [numC] at s0 s1 s2 s3
  have hb : Blk wq (w2.heap.size + 1) 63 #[.int .i64 0, .nilFunc, .nilFunc, .func (.func 49) #[] #[]] := by rw [← HW.out]; repeat (first | exact blk_new' (by simp) | apply Blk.alloc)
  have t10 := hb.cell 0; have t11 := hb.cell 1; have t12 := hb.cell 2; have t13 := hb.cell 3
  clear hb
  simp at t10 t11 t12 t13
  have hb : Blk wq (w2.heap.size + 1 + 1) 63 #[.int .i64 0, .nilFunc, .nilFunc, .func (.func 50) #[] #[]] := by rw [← HW.out]; repeat (first | exact blk_new' (by simp) | apply Blk.alloc)
  have t20 := hb.cell 0; have t21 := hb.cell 1; have t22 := hb.cell 2; have t23 := hb.cell 3
  clear hb
  simp at t20 t21 t22 t23
  have hb : Blk wq (w2.heap.size + 1 + 1 + 1) 63 #[.int .i64 0, .nilFunc, .nilFunc, .func (.func 51) #[] #[]] := by rw [← HW.out]; repeat (first | exact blk_new' (by simp) | apply Blk.alloc)
  have t30 := hb.cell 0; have t31 := hb.cell 1; have t32 := hb.cell 2; have t33 := hb.cell 3
  clear hb
  simp at t30 t31 t32 t33
  have hb : Blk wq (w2.heap.size + 1 + 1 + 1 + 1) 63 #[.int .i64 0, .nilFunc, .nilFunc, .func (.func 52) #[] #[]] := by rw [← HW.out]; repeat (first | exact blk_new' (by simp) | apply Blk.alloc)
  have t40 := hb.cell 0; have t41 := hb.cell 1; have t42 := hb.cell 2; have t43 := hb.cell 3
  clear hb
  simp at t40 t41 t42 t43
  have hb : Blk wq (w2.heap.size + 1 + 1 + 1 + 1 + 1) 63 #[.int .i64 0, .nilFunc, .nilFunc, .func (.func 53) #[] #[]] := by rw [← HW.out]; repeat (first | exact blk_new' (by simp) | apply Blk.alloc)
  have t50 := hb.cell 0; have t51 := hb.cell 1; have t52 := hb.cell 2; have t53 := hb.cell 3
  clear hb
  simp at t50 t51 t52 t53
  clear HW hst hsn
  go_wp2_with fail
  go_ret
  exact rowpost (b1 := w.heap.size) (b2 := w1.heap.size + 1) (by have := HO.out.size; omega) (Nat.le_refl _) (by have := HZ.out; omega) (blk_new' (by simp)) (HS.out.alloc _) (HR.out.alloc _) (HO.out.alloc _)

set_option maxRecDepth 100000 in
set_option maxHeartbeats 3200000 in
theorem row_2 (w : World) : Calls Try.prog 28 #[.int .i64 2] w (RowPost 6 row2C w) := by
  have hst := fun (W : World) (a : Addr) (fn : Fn) (c : Array Value) => (run_store Try.prog W a (.func fn #[] c) .plain rfl : (store a (.func fn #[] c)).run Try.prog W = stored Try.prog W a (.func fn #[] c) .plain)
  have hsn := fun (W : World) (a : Addr) => (run_store Try.prog W a .nilFunc .plain rfl : (store a .nilFunc).run Try.prog W = stored Try.prog W a .nilFunc .plain)
  go_enter Try.func28, Try.ntmps28
  go_upto_region 13 with (go_at_call 46; refine (wnumber_any _ _).mono ?_; (first
    | (rintro e w1 ⟨rfl, hb1, hs1, ho1⟩; have HS0 : Hid (Blk w1 w.heap.size _ #[fnV 47]) := hide hb1; have HZ := hide hs1; have HF := hide (Blk.new w1 63 (numC w.heap.size).toArray); have HS := hide (HS0.out.alloc (.cells (numC w.heap.size).toArray 63)); have HO := hide (ho1.alloc (.cells (numC w.heap.size).toArray 63)); clear hb1 hs1 ho1)
    | (rintro e w2 ⟨rfl, hb1, hs1, ho1⟩; rw [World.size_alloc] at hb1 hs1; have HR : Hid (Blk w2 (w1.heap.size + 1) _ #[fnV 48]) := hide hb1; have HZ2 := hide hs1; have HS := hide (HS.out.only ho1 (by simp)); have HF := hide (HF.out.only ho1 (by simp)); have HO := hide (HO.out.trans ho1); clear hb1 hs1 ho1)))
  generalize hW : (((((w2.alloc (.cells #[.int .i64 4, .func (.func 70) #[] #[.pointer (some ⟨w1.heap.size + 1, 0, none⟩)], .func (.func 71) #[] #[.pointer (some ⟨w1.heap.size + 1, 0, none⟩)], .nilFunc] 63)).alloc (.cells #[.int .i64 0, .nilFunc, .nilFunc, .func (.func 49) #[] #[]] 63)).alloc (.cells #[.int .i64 0, .nilFunc, .nilFunc, .func (.func 50) #[] #[]] 63)).alloc (.cells #[.int .i64 0, .nilFunc, .nilFunc, .func (.func 51) #[] #[]] 63)).alloc (.cells #[.int .i64 0, .nilFunc, .nilFunc, .func (.func 54) #[] #[]] 63)) = wq at *
  have HW := hide hW
  clear hW
  have HS := hide (show Blk wq w.heap.size _ #[fnV 47] from by rw [← HW.out]; repeat (first | exact HS.out | apply Blk.alloc))
  have HR := hide (show Blk wq (w1.heap.size + 1) _ #[fnV 48] from by rw [← HW.out]; repeat (first | exact HR.out | apply Blk.alloc))
  have HO := hide (show Only [] w wq from by rw [← HW.out]; repeat (first | exact HO.out | apply Only.alloc))
  have HF := hide (show Blk wq w1.heap.size 63 (numC w.heap.size).toArray from by rw [← HW.out]; repeat (first | exact HF.out | apply Blk.alloc))
  have s0 := HF.out.cell 0; have s1 := HF.out.cell 1; have s2 := HF.out.cell 2; have s3 := HF.out.cell 3
  simp [numC] at s0 s1 s2 s3
  have hb : Blk wq (w2.heap.size) 63 #[.int .i64 4, .func (.func 70) #[] #[.pointer (some ⟨w1.heap.size + 1, 0, none⟩)], .func (.func 71) #[] #[.pointer (some ⟨w1.heap.size + 1, 0, none⟩)], .nilFunc] := by rw [← HW.out]; repeat (first | exact blk_new' (by simp) | apply Blk.alloc)
  have t00 := hb.cell 0; have t01 := hb.cell 1; have t02 := hb.cell 2; have t03 := hb.cell 3
  clear hb
  simp at t00 t01 t02 t03
  have hb : Blk wq (w2.heap.size + 1) 63 #[.int .i64 0, .nilFunc, .nilFunc, .func (.func 49) #[] #[]] := by rw [← HW.out]; repeat (first | exact blk_new' (by simp) | apply Blk.alloc)
  have t10 := hb.cell 0; have t11 := hb.cell 1; have t12 := hb.cell 2; have t13 := hb.cell 3
  clear hb
  simp at t10 t11 t12 t13
  have hb : Blk wq (w2.heap.size + 1 + 1) 63 #[.int .i64 0, .nilFunc, .nilFunc, .func (.func 50) #[] #[]] := by rw [← HW.out]; repeat (first | exact blk_new' (by simp) | apply Blk.alloc)
  have t20 := hb.cell 0; have t21 := hb.cell 1; have t22 := hb.cell 2; have t23 := hb.cell 3
  clear hb
  simp at t20 t21 t22 t23
  have hb : Blk wq (w2.heap.size + 1 + 1 + 1) 63 #[.int .i64 0, .nilFunc, .nilFunc, .func (.func 51) #[] #[]] := by rw [← HW.out]; repeat (first | exact blk_new' (by simp) | apply Blk.alloc)
  have t30 := hb.cell 0; have t31 := hb.cell 1; have t32 := hb.cell 2; have t33 := hb.cell 3
  clear hb
  simp at t30 t31 t32 t33
  have hb : Blk wq (w2.heap.size + 1 + 1 + 1 + 1) 63 #[.int .i64 0, .nilFunc, .nilFunc, .func (.func 54) #[] #[]] := by rw [← HW.out]; repeat (first | exact blk_new' (by simp) | apply Blk.alloc)
  have t40 := hb.cell 0; have t41 := hb.cell 1; have t42 := hb.cell 2; have t43 := hb.cell 3
  clear hb
  simp at t40 t41 t42 t43
  clear HW hst hsn
  go_wp2_with fail
  go_ret
  exact rowpost (b1 := w.heap.size) (b2 := w1.heap.size + 1) (by have := HO.out.size; omega) (Nat.le_refl _) (by have := HZ.out; omega) (blk_new' (by simp)) (HS.out.alloc _) (HR.out.alloc _) (HO.out.alloc _)

set_option maxRecDepth 100000 in
set_option maxHeartbeats 3200000 in
theorem row_3 (w : World) : Calls Try.prog 28 #[.int .i64 3] w (RowPost 3 row3C w) := by
  have hst := fun (W : World) (a : Addr) (fn : Fn) (c : Array Value) => (run_store Try.prog W a (.func fn #[] c) .plain rfl : (store a (.func fn #[] c)).run Try.prog W = stored Try.prog W a (.func fn #[] c) .plain)
  have hsn := fun (W : World) (a : Addr) => (run_store Try.prog W a .nilFunc .plain rfl : (store a .nilFunc).run Try.prog W = stored Try.prog W a .nilFunc .plain)
  go_enter Try.func28, Try.ntmps28
  go_upto_region 17 with (go_at_call 46; refine (wnumber_any _ _).mono ?_; (first
    | (rintro e w1 ⟨rfl, hb1, hs1, ho1⟩; have HS0 : Hid (Blk w1 w.heap.size _ #[fnV 47]) := hide hb1; have HZ := hide hs1; have HF := hide (Blk.new w1 63 (numC w.heap.size).toArray); have HS := hide (HS0.out.alloc (.cells (numC w.heap.size).toArray 63)); have HO := hide (ho1.alloc (.cells (numC w.heap.size).toArray 63)); clear hb1 hs1 ho1)
    | (rintro e w2 ⟨rfl, hb1, hs1, ho1⟩; rw [World.size_alloc] at hb1 hs1; have HR : Hid (Blk w2 (w1.heap.size + 1) _ #[fnV 48]) := hide hb1; have HZ2 := hide hs1; have HS := hide (HS.out.only ho1 (by simp)); have HF := hide (HF.out.only ho1 (by simp)); have HO := hide (HO.out.trans ho1); clear hb1 hs1 ho1)))
  generalize hW : ((((((w2.alloc (.cells #[.int .i64 4, .func (.func 70) #[] #[.pointer (some ⟨w1.heap.size + 1, 0, none⟩)], .func (.func 71) #[] #[.pointer (some ⟨w1.heap.size + 1, 0, none⟩)], .nilFunc] 63)).alloc (.cells #[.int .i64 0, .nilFunc, .nilFunc, .func (.func 49) #[] #[]] 63)).alloc (.cells #[.int .i64 0, .nilFunc, .nilFunc, .func (.func 50) #[] #[]] 63)).alloc (.cells #[.int .i64 0, .nilFunc, .nilFunc, .func (.func 51) #[] #[]] 63)).alloc (.cells #[.int .i64 0, .nilFunc, .nilFunc, .func (.func 55) #[] #[]] 63)).alloc (.cells #[.int .i64 0, .nilFunc, .nilFunc, .func (.func 56) #[] #[]] 63)) = wq at *
  have HW := hide hW
  clear hW
  have HS := hide (show Blk wq w.heap.size _ #[fnV 47] from by rw [← HW.out]; repeat (first | exact HS.out | apply Blk.alloc))
  have HR := hide (show Blk wq (w1.heap.size + 1) _ #[fnV 48] from by rw [← HW.out]; repeat (first | exact HR.out | apply Blk.alloc))
  have HO := hide (show Only [] w wq from by rw [← HW.out]; repeat (first | exact HO.out | apply Only.alloc))
  have HF := hide (show Blk wq w1.heap.size 63 (numC w.heap.size).toArray from by rw [← HW.out]; repeat (first | exact HF.out | apply Blk.alloc))
  have hb : Blk wq (w2.heap.size) 63 #[.int .i64 4, .func (.func 70) #[] #[.pointer (some ⟨w1.heap.size + 1, 0, none⟩)], .func (.func 71) #[] #[.pointer (some ⟨w1.heap.size + 1, 0, none⟩)], .nilFunc] := by rw [← HW.out]; repeat (first | exact blk_new' (by simp) | apply Blk.alloc)
  have t00 := hb.cell 0; have t01 := hb.cell 1; have t02 := hb.cell 2; have t03 := hb.cell 3
  clear hb
  simp at t00 t01 t02 t03
  have hb : Blk wq (w2.heap.size + 1 + 1 + 1 + 1) 63 #[.int .i64 0, .nilFunc, .nilFunc, .func (.func 55) #[] #[]] := by rw [← HW.out]; repeat (first | exact blk_new' (by simp) | apply Blk.alloc)
  have t40 := hb.cell 0; have t41 := hb.cell 1; have t42 := hb.cell 2; have t43 := hb.cell 3
  clear hb
  simp at t40 t41 t42 t43
  have hb : Blk wq (w2.heap.size + 1 + 1 + 1 + 1 + 1) 63 #[.int .i64 0, .nilFunc, .nilFunc, .func (.func 56) #[] #[]] := by rw [← HW.out]; repeat (first | exact blk_new' (by simp) | apply Blk.alloc)
  have t50 := hb.cell 0; have t51 := hb.cell 1; have t52 := hb.cell 2; have t53 := hb.cell 3
  clear hb
  simp at t50 t51 t52 t53
  clear HW hst hsn
  go_wp2_with fail
  go_ret
  exact rowpost (b1 := w.heap.size) (b2 := w1.heap.size + 1) (by have := HO.out.size; omega) (Nat.le_refl _) (by have := HZ.out; omega) (blk_new' (by simp)) (HS.out.alloc _) (HR.out.alloc _) (HO.out.alloc _)

set_option maxRecDepth 100000 in
set_option maxHeartbeats 3200000 in
theorem row_4 (w : World) : Calls Try.prog 28 #[.int .i64 4] w (RowPost 3 row4C w) := by
  have hst := fun (W : World) (a : Addr) (fn : Fn) (c : Array Value) => (run_store Try.prog W a (.func fn #[] c) .plain rfl : (store a (.func fn #[] c)).run Try.prog W = stored Try.prog W a (.func fn #[] c) .plain)
  have hsn := fun (W : World) (a : Addr) => (run_store Try.prog W a .nilFunc .plain rfl : (store a .nilFunc).run Try.prog W = stored Try.prog W a .nilFunc .plain)
  go_enter Try.func28, Try.ntmps28
  go_upto_region 21 with (go_at_call 46; refine (wnumber_any _ _).mono ?_; (first
    | (rintro e w1 ⟨rfl, hb1, hs1, ho1⟩; have HS0 : Hid (Blk w1 w.heap.size _ #[fnV 47]) := hide hb1; have HZ := hide hs1; have HF := hide (Blk.new w1 63 (numC w.heap.size).toArray); have HS := hide (HS0.out.alloc (.cells (numC w.heap.size).toArray 63)); have HO := hide (ho1.alloc (.cells (numC w.heap.size).toArray 63)); clear hb1 hs1 ho1)
    | (rintro e w2 ⟨rfl, hb1, hs1, ho1⟩; rw [World.size_alloc] at hb1 hs1; have HR : Hid (Blk w2 (w1.heap.size + 1) _ #[fnV 48]) := hide hb1; have HZ2 := hide hs1; have HS := hide (HS.out.only ho1 (by simp)); have HF := hide (HF.out.only ho1 (by simp)); have HO := hide (HO.out.trans ho1); clear hb1 hs1 ho1)))
  generalize hW : ((((((w2.alloc (.cells #[.int .i64 4, .func (.func 70) #[] #[.pointer (some ⟨w1.heap.size + 1, 0, none⟩)], .func (.func 71) #[] #[.pointer (some ⟨w1.heap.size + 1, 0, none⟩)], .nilFunc] 63)).alloc (.cells #[.int .i64 0, .nilFunc, .nilFunc, .func (.func 49) #[] #[]] 63)).alloc (.cells #[.int .i64 0, .nilFunc, .nilFunc, .func (.func 50) #[] #[]] 63)).alloc (.cells #[.int .i64 0, .nilFunc, .nilFunc, .func (.func 51) #[] #[]] 63)).alloc (.cells #[.int .i64 8, .func (.func 57) #[] #[], .func (.func 58) #[] #[], .nilFunc] 63)).alloc (.cells #[.int .i64 0, .nilFunc, .nilFunc, .func (.func 59) #[] #[]] 63)) = wq at *
  have HW := hide hW
  clear hW
  have HS := hide (show Blk wq w.heap.size _ #[fnV 47] from by rw [← HW.out]; repeat (first | exact HS.out | apply Blk.alloc))
  have HR := hide (show Blk wq (w1.heap.size + 1) _ #[fnV 48] from by rw [← HW.out]; repeat (first | exact HR.out | apply Blk.alloc))
  have HO := hide (show Only [] w wq from by rw [← HW.out]; repeat (first | exact HO.out | apply Only.alloc))
  have HF := hide (show Blk wq w1.heap.size 63 (numC w.heap.size).toArray from by rw [← HW.out]; repeat (first | exact HF.out | apply Blk.alloc))
  have hb : Blk wq (w2.heap.size) 63 #[.int .i64 4, .func (.func 70) #[] #[.pointer (some ⟨w1.heap.size + 1, 0, none⟩)], .func (.func 71) #[] #[.pointer (some ⟨w1.heap.size + 1, 0, none⟩)], .nilFunc] := by rw [← HW.out]; repeat (first | exact blk_new' (by simp) | apply Blk.alloc)
  have t00 := hb.cell 0; have t01 := hb.cell 1; have t02 := hb.cell 2; have t03 := hb.cell 3
  clear hb
  simp at t00 t01 t02 t03
  have hb : Blk wq (w2.heap.size + 1 + 1 + 1 + 1) 63 #[.int .i64 8, .func (.func 57) #[] #[], .func (.func 58) #[] #[], .nilFunc] := by rw [← HW.out]; repeat (first | exact blk_new' (by simp) | apply Blk.alloc)
  have t40 := hb.cell 0; have t41 := hb.cell 1; have t42 := hb.cell 2; have t43 := hb.cell 3
  clear hb
  simp at t40 t41 t42 t43
  have hb : Blk wq (w2.heap.size + 1 + 1 + 1 + 1 + 1) 63 #[.int .i64 0, .nilFunc, .nilFunc, .func (.func 59) #[] #[]] := by rw [← HW.out]; repeat (first | exact blk_new' (by simp) | apply Blk.alloc)
  have t50 := hb.cell 0; have t51 := hb.cell 1; have t52 := hb.cell 2; have t53 := hb.cell 3
  clear hb
  simp at t50 t51 t52 t53
  clear HW hst hsn
  go_wp2_with fail
  go_ret
  exact rowpost (b1 := w.heap.size) (b2 := w1.heap.size + 1) (by have := HO.out.size; omega) (Nat.le_refl _) (by have := HZ.out; omega) (blk_new' (by simp)) (HS.out.alloc _) (HR.out.alloc _) (HO.out.alloc _)
end
section
open Go.RowKit Go.Deep

/-- A reader's block g: what is left reads as l. -/
def RdrAt (w : World) (N : List Nat) (g : Nat) (l : List UInt8) : Prop :=
  ∃ G O cap, Blk w g 55 #[.slice (some ⟨G, O, none⟩) l.length cap] ∧ Rd w (g :: N) (.slice (some ⟨G, O, none⟩) l.length cap) (ints .u8 (byts l))
theorem RdrAt.only {w w' : World} {N S : List Nat} {g : Nat} {l : List UInt8} (h : RdrAt w N g l) (ho : Only S w w') (hg : g ∉ S) (hS : ∀ x ∈ S, x ∈ N) : RdrAt w' N g l := by
  obtain ⟨G, O, cap, hb, hr⟩ := h
  exact ⟨G, O, cap, hb.only ho hg, hr.only ho (fun x hx => List.mem_cons_of_mem _ (hS x hx))⟩
theorem Rd.drop_ {w : World} {N : List Nat} {G O n cap : Nat} {xs : List Value} (h : Rd w N (.slice (some ⟨G, O, none⟩) n cap) xs) (m : Nat) (hm : m ≤ n) (hc : m < cap) : Rd w N (.slice (some ⟨G, O + m, none⟩) (n - m) (cap - m)) (xs.drop m) := by
  obtain ⟨A, cap', hv, h1, h2, h3⟩ := h
  injection hv with e1 e2 e3
  subst e1 e2 e3
  refine ⟨_, _, by rw [List.length_drop], by rw [List.length_drop]; omega, by omega, ?_⟩
  rcases h3 with h3 | ⟨g, o, hA, hg, hl, hcell⟩
  · subst h3; exact .inl (by simp)
  · injection hA with hA
    injection hA with a1 a2
    subst a1 a2
    refine .inr ⟨G, O + m, rfl, hg, hl, fun i x hx => ?_⟩
    rw [List.getElem?_drop] at hx
    rw [Nat.add_assoc]
    exact hcell _ _ hx
theorem Rd.none_ {w : World} {N : List Nat} {A : Option Addr} {cap : Nat} (hc : cap ≤ maxLen) : Rd w N (.slice A 0 cap) (ints .u8 (byts [])) := ⟨A, cap, rfl, Nat.zero_le _, hc, .inl rfl⟩

/-- What take hands back. -/
def TakePostW (N : List Nat) (g n : Nat) (l : List UInt8) (w : World) (e : Ending) (w' : World) : Prop :=
  if l.length < n then e = .returned (.tuple #[.slice none 0 0, .bool false]) ∧ w = w'
  else ∃ G O cap, e = .returned (.tuple #[.slice (some ⟨G, O, none⟩) n cap, .bool true]) ∧ Rd w' (g :: N) (.slice (some ⟨G, O, none⟩) n cap) (ints .u8 (byts (l.take n))) ∧ RdrAt w' N g (l.drop n) ∧ Only [g] w w'
theorem ints_take (l : List UInt8) (n : Nat) : (ints .u8 (byts l)).take n = ints .u8 (byts (l.take n)) := by simp [ints, byts, List.map_take]
theorem ints_drop (l : List UInt8) (n : Nat) : (ints .u8 (byts l)).drop n = ints .u8 (byts (l.drop n)) := by simp [ints, byts, List.map_drop]
theorem takeW_yes {N : List Nat} {g n : Nat} {l : List UInt8} {w : World} {G O cap O2 cap2 m : Nat} (hle : ¬ l.length < n) (hb : Blk w g 55 #[.slice (some ⟨G, O, none⟩) l.length cap]) (hr : Rd w (g :: N) (.slice (some ⟨G, O, none⟩) l.length cap) (ints .u8 (byts l)))
    (hm : m = (l.drop n).length) (h2 : Rd w (g :: N) (.slice (some ⟨G, O2, none⟩) m cap2) (ints .u8 (byts (l.drop n)))) :
    TakePostW N g n l w (.returned (.tuple #[.slice (some ⟨G, O, none⟩) n cap, .bool true])) (w.setCell ⟨g, 0, none⟩ (.slice (some ⟨G, O2, none⟩) m cap2)) := by
  have ho : Only [g] w (w.setCell ⟨g, 0, none⟩ (.slice (some ⟨G, O2, none⟩) m cap2)) := (Only.refl [g] w).setCell (p := ⟨g, 0, none⟩) (.inl (by simp)) _
  unfold TakePostW
  rw [if_neg hle]
  refine ⟨G, O, cap, rfl, ?_, ⟨G, O2, cap2, ?_, ?_⟩, ho⟩
  · have h := (hr.take n (by omega)).only ho (by simp)
    rwa [ints_take] at h
  · rw [← hm]; exact hb.set_ 0 _
  · rw [← hm]; exact h2.only ho (by simp)
set_option maxRecDepth 100000 in
set_option maxHeartbeats 3200000 in
theorem take_w (w : World) (N : List Nat) (g n : Nat) (l : List UInt8) (_hl : l.length ≤ 1099511627776) (hn : n ≤ 65536) (h : RdrAt w N g l) :
    Calls Try.prog 60 #[.pointer (some ⟨g, 0, none⟩), .int .i64 n] w (TakePostW N g n l w) := by
  obtain ⟨G, O, cap, hb, hr⟩ := h
  obtain ⟨A, cap', hv, hc1, hc2⟩ := hr.formb
  injection hv with e1 e2 e3
  subst e3
  unfold maxLen at hc2
  have k0 := hb.cell 0
  simp at k0
  have kf := hb.frozen
  have HB := hide hb
  have HR := hide hr
  have HO := hide (Only.refl [g] w)
  clear hb hr e1 e2
  by_cases hlt : l.length < n
  · have hI : (l.length : Int) < n := by omega
    have HP := hide (fun e w' => show (e = Ending.returned (.tuple #[.slice none 0 0, .bool false]) ∧ w = w') → TakePostW N g n l w e w' from fun h => by unfold TakePostW; rw [if_pos hlt]; exact h)
    clear hlt
    go_enter Try.func60, Try.ntmps60
    go_wp2
    go_ret2
    exact HP.out _ _ ⟨rfl, rfl⟩
  · have hI : ¬ (l.length : Int) < n := by omega
    have hle : (n : Int) ≤ l.length := by omega
    have hle2 : n ≤ l.length := by omega
    by_cases hcap : n = cap
    · subst hcap
      have hlen : l.length = n := by omega
      have HT := HR.out.take n (by omega)
      clear hlt
      go_enter Try.func60, Try.ntmps60
      go_wp2
      go_ret2
      exact takeW_yes (by omega) HB.out HR.out (by rw [List.length_drop]; omega) (by rw [List.drop_of_length_le (by omega)]; exact Rd.none_ (Nat.zero_le _))
    · have hcI : ¬ (cap : Int) = n := by omega
      have hcN : ¬ cap = n := by omega
      clear hlt
      go_enter Try.func60, Try.ntmps60
      go_wp2
      go_ret2
      exact takeW_yes (by omega) HB.out HR.out (by rw [List.length_drop]) (by rw [← ints_drop]; exact HR.out.drop_ n (by omega) (by omega))

/-- A number, the lowest byte first. -/
def lowV : List UInt8 → Nat
  | [] => 0
  | b :: r => b.toNat + 256 * lowV r
theorem lowV_snoc (l : List UInt8) (b : UInt8) : lowV (l ++ [b]) = lowV l + b.toNat * 256 ^ l.length := by
  induction l with
  | nil => simp [lowV]
  | cons a r ih => rw [List.cons_append, lowV, lowV, ih, List.length_cons, Nat.pow_succ]; rw [Nat.mul_add]; rw [Nat.add_assoc]; congr 2; rw [Nat.mul_comm 256, Nat.mul_assoc]
theorem lowV_lt (l : List UInt8) : lowV l < 256 ^ l.length := by
  induction l with
  | nil => simp [lowV]
  | cons a r ih =>
    rw [lowV, List.length_cons, Nat.pow_succ]
    have := a.toNat_lt
    omega
theorem lowV_take (l : List UInt8) (k : Nat) (hk : k < l.length) : lowV (l.take (k + 1)) = lowV (l.take k) + (l.getD k 0).toNat * 256 ^ k := by
  have h : l.take (k + 1) = l.take k ++ [l.getD k 0] := by
    rw [List.take_succ_eq_append_getElem hk]
    simp [List.getElem?_eq_getElem hk]
  rw [h, lowV_snoc, List.length_take, Nat.min_eq_left (Nat.le_of_lt hk)]
set_option maxRecDepth 100000 in
theorem or_shift (u b j : Nat) (hu : u < 256 ^ j) (hb : b < 256) (hj : j < 8) : bits .or .u64 (u : Int) (IntKind.u64.wrap (IntKind.u64.wrap (b : Int) * 2 ^ (8 * j))) = ((u + b * 256 ^ j : Nat) : Int) := by
  have hp : 2 ^ (8 * j) = 256 ^ j := by rw [Nat.pow_mul]
  have h8 : 256 ^ (j + 1) ≤ 256 ^ 8 := Nat.pow_le_pow_right (by decide) (by omega)
  have e8 : 256 ^ 8 = 18446744073709551616 := by decide
  rw [e8, Nat.pow_succ] at h8
  have hb1 : b * 256 ^ j ≤ 255 * 256 ^ j := Nat.mul_le_mul_right _ (by omega)
  have hlt : b * 256 ^ j < 18446744073709551616 := by omega
  have hul : u < 18446744073709551616 := by omega
  have w1 : IntKind.u64.wrap (b : Int) = (b : Int) := by rw [IntKind.wrap_u64]; omega
  have e1 : (b : Int) * 2 ^ (8 * j) = ((b * 256 ^ j : Nat) : Int) := by rw [← hp]; push_cast; rfl
  have w2 : IntKind.u64.wrap ((b * 256 ^ j : Nat) : Int) = ((b * 256 ^ j : Nat) : Int) := by
    generalize b * 256 ^ j = x at *
    rw [IntKind.wrap_u64]; omega
  rw [w1, e1, w2]
  have e2 : (BitVec.ofInt 64 ((u : Nat) : Int)).toNat = u := by rw [BitVec.ofInt_natCast, BitVec.toNat_ofNat]; exact Nat.mod_eq_of_lt hul
  have e3 : (BitVec.ofInt 64 ((b * 256 ^ j : Nat) : Int)).toNat = b * 256 ^ j := by rw [BitVec.ofInt_natCast, BitVec.toNat_ofNat]; exact Nat.mod_eq_of_lt hlt
  have e4 : u ||| (b * 256 ^ j) = u + b * 256 ^ j := by
    have h := Nat.two_pow_add_eq_or_of_lt (i := 8 * j) (b := u) (by rw [hp]; exact hu) b
    rw [hp] at h
    rw [Nat.or_comm, Nat.mul_comm b, ← h, Nat.add_comm]
  show IntKind.u64.wrap ((BitVec.ofInt 64 ((u : Nat) : Int) ||| BitVec.ofInt 64 ((b * 256 ^ j : Nat) : Int)).toNat : Int) = _
  rw [BitVec.toNat_or, e2, e3, e4, IntKind.wrap_u64]
  omega
/-- What number hands back. -/
def NumPostW (N : List Nat) (g n : Nat) (l : List UInt8) (w : World) (e : Ending) (w' : World) : Prop :=
  if l.length < n then e = .returned (.tuple #[.int .u64 0, .bool false]) ∧ w = w'
  else e = .returned (.tuple #[.int .u64 (lowV (l.take n) : Nat), .bool true]) ∧ RdrAt w' N g (l.drop n) ∧ Only [g] w w'
set_option maxRecDepth 100000 in
set_option maxHeartbeats 3200000 in
theorem number_w (w : World) (N : List Nat) (g n : Nat) (l : List UInt8) (hl : l.length ≤ 1099511627776) (hn : n ≤ 8) (h : RdrAt w N g l) :
    Calls Try.prog 45 #[.pointer (some ⟨g, 0, none⟩), .int .i64 n] w (NumPostW N g n l w) := by
  have HT := hide (take_w w N g n l hl (by omega) h)
  by_cases hlt : l.length < n
  · have HP := hide (fun e w' => show (e = Ending.returned (.tuple #[.int .u64 0, .bool false]) ∧ w = w') → NumPostW N g n l w e w' from fun h => by unfold NumPostW; rw [if_pos hlt]; exact h)
    unfold TakePostW at HT
    simp only [if_pos hlt] at HT
    clear h hlt
    go_enter Try.func45, Try.ntmps45
    go_wp2_with (go_at_call 60; refine HT.out.mono ?_; rintro e w1 ⟨rfl, rfl⟩)
    go_ret2
    exact HP.out _ _ ⟨rfl, rfl⟩
  · have HP := hide (fun e w' => show (e = Ending.returned (.tuple #[.int .u64 (lowV (l.take n) : Nat), .bool true]) ∧ RdrAt w' N g (l.drop n) ∧ Only [g] w w') → NumPostW N g n l w e w' from fun h => by unfold NumPostW; rw [if_neg hlt]; exact h)
    unfold TakePostW at HT
    simp only [if_neg hlt] at HT
    have HLE := hide (show n ≤ l.length by omega)
    have HN := hide hn
    obtain ⟨q, hq⟩ : ∃ q, q = l.take n := ⟨_, rfl⟩
    have HQ := hide (show q.length = n by rw [hq, List.length_take]; omega)
    rw [← hq] at HT HP
    clear h hlt hq
    go_enter Try.func45, Try.ntmps45
    go_wp2_with (go_at_call 60; refine HT.out.mono ?_; rintro e w1 ⟨G, O, cap, rfl, hr, ha, ho⟩; have HR := hide hr; have HA := hide ha; have HO := hide ho; clear hr ha ho)
    go_loopw [21, 8] (fun i u wr => ∃ j : Nat, j ≤ n ∧ i = .int .i64 j ∧ u = .int .u64 (lowV (q.take j) : Nat) ∧ Hid (wr = w1)) (fun i _ _ => n - (intOf i).toNat)
    case atStart => exact ⟨0, Nat.zero_le _, rfl, rfl, hide rfl⟩
    case round =>
      obtain ⟨j, hj, rfl, rfl, HW⟩ := hrel
      obtain rfl := HW.out
      by_cases hlt : j < n
      · have hltI : (j : Int) < n := by omega
        have hjq : j < q.length := by rw [HQ.out]; exact hlt
        obtain ⟨g2, o2, hA, _, hg, hcell⟩ := HR.out.at_.2.2.2 j (.int .u8 (q.getD j 0).toNat) (ints_get (byts_get (by simp [List.getElem?_eq_getElem hjq])))
        cases hA
        have HST := hide (lowV_take q j hjq)
        have HLT := hide (lowV_lt (q.take j))
        have HBB := hide (q.getD j 0).toNat_lt
        have HLE2 := hide (show (q.take j).length = j by rw [List.length_take]; omega)
        generalize (q.getD j 0).toNat = b at *
        generalize lowV (q.take j) = u at *
        clear hjq
        go_wp2_with fail
        refine ⟨⟨j + 1, by omega, by go_num, ?_, (by first | exact hide trivial | exact hide rfl)⟩, by simp [intOf]; omega⟩
        rw [HST.out, or_shift u b j (by have := HLT.out; rw [HLE2.out] at this; exact this) HBB.out (by have := HN.out; omega)]
      · have hge : ¬ (j : Int) < n := by omega
        have e : q.take j = q := List.take_of_length_le (by have := HQ.out; omega)
        rw [e]
        go_wp2_with fail
        go_ret2
        exact HP.out _ _ ⟨rfl, HA.out, HO.out⟩
end
section
open Go.RowKit Go.Deep

theorem kindV_pos {c : Int} (h : kindV c ≠ 0) : 1 ≤ kindV c := by
  unfold kindV at h ⊢
  repeat' split
  all_goals first
    | omega
    | (simp_all; done)
theorem end_kind {s : ByteArray} {k : Int} {n : Nat} {l : List ByteArray} {p q : Nat} {nd : Nd} (hk : 1 ≤ k) (h : rdEnd s k n l p = some (nd, q)) : 1 ≤ nd.1 := by
  unfold rdEnd at h
  by_cases h1 : peekV s p 41 = true
  · rw [if_pos h1] at h
    by_cases h2 : fitsV k l.length = true
    · rw [if_pos h2] at h
      obtain ⟨e, _⟩ := Prod.mk.inj (Option.some.inj h)
      subst e
      exact hk
    · rw [if_neg h2] at h; cases h
  · rw [if_neg h1] at h; cases h
theorem leaf_kind {k : Int} {n q q' : Nat} {b : List UInt8} {l : List ByteArray} {nd : Nd} (hk : 1 ≤ k) (h : some (((k, n, b, l) : Nd), q') = some (nd, q)) : 1 ≤ nd.1 := by
  obtain ⟨e, _⟩ := Prod.mk.inj (Option.some.inj h)
  subst e
  exact hk
theorem rd_kind (s : ByteArray) : ∀ (f : Nat) (m : Option (Int × Nat × List ByteArray)) (p : Nat) (nd : Nd) (q : Nat), (∀ x, m = some x → 1 ≤ x.1) → rd s f m p = some (nd, q) → 1 ≤ nd.1 := by
  intro f
  induction f with
  | zero => intro m p nd q _ h; cases m <;> (simp only [rd] at h; cases h)
  | succ f ih =>
    have ih2 : ∀ (k : Int) (n : Nat) (l : List ByteArray) (p : Nat) (nd : Nd) (q : Nat), 1 ≤ k → rd s f (some (k, n, l)) p = some (nd, q) → 1 ≤ nd.1 := fun k n l p nd q hk h => ih _ p nd q (fun x hx => by cases hx; exact hk) h
    intro m p nd q hm h
    cases m with
    | none =>
      rw [rd] at h
      repeat' (split at h)
      all_goals first
        | (cases h; done)
        | exact ih2 _ _ _ _ _ _ (kindV_pos (by assumption)) h
        | exact end_kind (kindV_pos (by assumption)) h
        | exact leaf_kind (kindV_pos (by assumption)) h
        | exact leaf_kind (k := 1) (by omega) h
        | exact leaf_kind (k := 4) (by omega) h
    | some x =>
      obtain ⟨k, n, parts⟩ := x
      have hk : 1 ≤ k := hm _ rfl
      rw [rd] at h
      repeat' (split at h)
      all_goals first
        | (cases h; done)
        | exact ih2 _ _ _ _ _ _ hk h
        | exact end_kind hk h
theorem kind_pos {s : ByteArray} {k : Int} {n : Nat} {b : List UInt8} {l : List ByteArray} (h : parseV s = some (k, n, b, l)) : 1 ≤ k := by
  unfold parseV at h
  split at h
  · cases h
  · split at h
    · cases h
    · rename_i nd q hr
      split at h
      · injection h with h
        have := rd_kind s _ none 0 nd q (by simp) hr
        rw [h] at this
        exact this
      · cases h
end
end Go.Proofs.Ytfmfnfmhknlpbaa

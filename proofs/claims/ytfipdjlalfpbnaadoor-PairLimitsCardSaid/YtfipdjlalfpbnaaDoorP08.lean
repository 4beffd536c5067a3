/-
  Walks and plain words for PairLimits (texts Tv, Bd, Lt, Join, Bc, Jn, Mk0, Bh, Jd). No condition beyond those that each theorem states.
-/
import Derived.Shelf.Strings.Builder1
import Derived.Maps.Own
import Derived.Maps.OwnOps
import Derived.Handy
import Derived.Test.YtfipdjlalfpbnaaDoorP07
namespace Go.Proofs.YtfipdjlalfpbnaaDoor
section
open Go.RowKit Go.Deep

def bytT (s : ByteArray) : List UInt8 × Bool := match parseV s with | none => ([], false) | some nd => if nd.1 = 4 then (nd.2.2.1, true) else ([], false)
def BytesPost (r : List UInt8 × Bool) (w : World) (e : Ending) (w' : World) : Prop :=
  ∃ v, e = .returned (.tuple #[v, .bool r.2]) ∧ Only [] w w' ∧ ∀ N : List Nat, (∀ x ∈ N, x < w.heap.size) → Rd w' N v (ints .u8 (byts r.1))
theorem bytespost {r : List UInt8 × Bool} {l : List UInt8} {b : Bool} {v : Value} {w w' : World} (h : r = (l, b)) (ho : Only [] w w') (hr : ∀ N : List Nat, (∀ x ∈ N, x < w.heap.size) → Rd w' N v (ints .u8 (byts l))) :
    BytesPost r w (.returned (.tuple #[v, .bool b])) w' := by subst h; exact ⟨_, rfl, ho, hr⟩
/-- Two texts the same? -/
def eqB (a b : ByteArray) : Bool := a.toList == b.toList
theorem eqB_iff (a b : ByteArray) : eqB a b = true ↔ a = b := by
  unfold eqB
  rw [beq_iff_eq, ByteArray.toList_eq, ByteArray.toList_eq]
  exact ⟨data_inj, fun h => by rw [h]⟩
def openT (t key : ByteArray) (n : Nat) (v : ByteArray) : ByteArray × Int := match parseV t with
  | some (k, m, _, l) => if k ≠ 10 then (ByteArray.empty, 3) else if l.getD 0 ByteArray.empty = key ∧ m = n ∧ l.getD 2 ByteArray.empty = v then (l.getD 1 ByteArray.empty, 0) else (ByteArray.empty, 8)
  | none => (ByteArray.empty, 3)
def OpenPost (r : ByteArray × Int) (w : World) (e : Ending) (w' : World) : Prop := e = .returned (.tuple #[.string r.1, .int .i64 r.2]) ∧ Only [] w w'
theorem openpost {r : ByteArray × Int} {a : ByteArray} {b : Int} {w w' : World} (h : r = (a, b)) (ho : Only [] w w') : OpenPost r w (.returned (.tuple #[.string a, .int .i64 b])) w' := by subst h; exact ⟨rfl, ho⟩
/-- The texts of a slice, as cells. -/
theorem rd_strs {w : World} {N : List Nat} {A : Option Addr} {n cap : Nat} {l : List ByteArray} (h : Rd w N (.slice A n cap) (strs l)) (h0 : 0 < l.length) :
    ∃ g o, A = some ⟨g, o, none⟩ ∧ n = l.length ∧ ∀ i, i < l.length → w.cell? ⟨g, o + i, none⟩ = some (.string (l.getD i ByteArray.empty)) := by
  obtain ⟨h1, _, _, h2⟩ := h.at_
  have key : ∀ i, i < l.length → (strs l)[i]? = some (.string (l.getD i ByteArray.empty)) := by
    intro i hi
    simp [strs, List.getElem?_eq_getElem hi]
  obtain ⟨g, o, hA, _, _, _⟩ := h2 0 _ (key 0 h0)
  refine ⟨g, o, hA, by rw [h1, strs_length], fun i hi => ?_⟩
  obtain ⟨g', o', hA', _, _, hc⟩ := h2 i _ (key i hi)
  rw [hA] at hA'
  injection hA' with hA'
  injection hA' with e1 e2
  subst e1 e2
  exact hc

set_option maxRecDepth 100000 in
set_option maxHeartbeats 3200000 in
theorem Bytes_any (w : World) (s : ByteArray) (hs : s.size ≤ maxLen) : Calls Tryd.prog 34 #[.string s] w (BytesPost (bytT s) w) := by
  have HP := hide (parse_any w s hs)
  cases hp : parseV s with
  | none =>
    rw [hp] at HP
    have HV := hide (show bytT s = ([], false) by unfold bytT; rw [hp])
    clear hp
    go_enter Tryd.func34, Tryd.ntmps34
    go_wp2_with (go_at_call 55; refine HP.out.mono ?_; rintro e w1 ⟨rfl, ho⟩; unfold nd0; have HO := hide ho; clear ho)
    go_ret2
    exact bytespost HV.out (HO.out.alloc _) (fun N _ => Rd.nil _ N)
  | some nd =>
    obtain ⟨k, n, bs, parts⟩ := nd
    rw [hp] at HP
    by_cases hk : k = 4
    · have HV := hide (show bytT s = (bs, true) by unfold bytT; rw [hp]; simp only; rw [if_pos hk])
      have hkb : (k != 4) = false := by rw [bne_eq_false_iff_eq]; exact hk
      clear hp hk
      go_enter Tryd.func34, Tryd.ntmps34
      go_wp2_with (go_at_call 55; refine HP.out.mono ?_; rintro e w1 ⟨bv, pv, rfl, ho, hb, hp⟩; obtain ⟨A, cap, rfl, _, _⟩ := (hb [] (by simp)).formb; obtain ⟨A2, cap2, rfl, _, _⟩ := (hp [] (by simp)).form; have HO := hide ho; have HRB := hide hb; clear ho hb hp)
      go_ret2
      exact bytespost HV.out (HO.out.alloc _) (fun N hN => (HRB.out N hN).only ((Only.refl [] _).alloc _) (by simp))
    · have HV := hide (show bytT s = ([], false) by unfold bytT; rw [hp]; simp only; rw [if_neg hk])
      have hkb : (k != 4) = true := by rw [bne_iff_ne]; exact hk
      clear hp hk
      go_enter Tryd.func34, Tryd.ntmps34
      go_wp2_with (go_at_call 55; refine HP.out.mono ?_; rintro e w1 ⟨bv, pv, rfl, ho, hb, hp⟩; obtain ⟨A, cap, rfl, _, _⟩ := (hb [] (by simp)).formb; obtain ⟨A2, cap2, rfl, _, _⟩ := (hp [] (by simp)).form; have HO := hide ho; clear ho hb hp)
      go_ret2
      exact bytespost HV.out (HO.out.alloc _) (fun N _ => Rd.nil _ N)
end
section
open Go.RowKit Go.Deep

theorem bd_size : ∃ j, Tryd.prog.info? 139 = some j ∧ j.size = 2 := Option.map_eq_some_iff.1 (show (Tryd.prog.info? 139).map (·.size) = some 2 by kernel_rfl)

set_option maxRecDepth 100000 in
set_option maxHeartbeats 1000000 in
theorem bd_check_used (b : Nat) (w : World) (h0 : w.cell? ⟨b, 0, none⟩ = some (.pointer (some ⟨b, 0, none⟩))) :
    Calls Tryd.prog 101 #[.pointer (some ⟨b, 0, none⟩)] w fun e w' => e = .returned (.tuple #[]) ∧ w' = w := by
  obtain ⟨j, hj, _⟩ := bd_size
  go_enter Tryd.func101, Tryd.ntmps101
  go_wp2
  rw [Lib.run_neq_ptr_same w _ Tryd.underlying137 hj]
  go_wp2
  go_end0
  exact ⟨rfl, rfl⟩

set_option maxRecDepth 100000 in
set_option maxHeartbeats 1000000 in
theorem bd_check_fresh (b : Nat) (w : World) (h0 : w.cell? ⟨b, 0, none⟩ = some (.pointer none)) (hsh : w.shape? b = some (139, 2)) (hfz : w.frozen? ⟨b, 0, none⟩ = false) :
    Calls Tryd.prog 101 #[.pointer (some ⟨b, 0, none⟩)] w fun e w' => e = .returned (.tuple #[]) ∧ w' = w.setCell ⟨b, 0, none⟩ (.pointer (some ⟨b, 0, none⟩)) := by
  obtain ⟨j, hj, hjs⟩ := bd_size
  go_enter Tryd.func101, Tryd.ntmps101
  go_wp2
  rw [Lib.run_to_unsafe w ⟨b, 0, none⟩ Tryd.underlying137 Tryd.underlying166 hj (by rw [hjs]; decide) hsh (Nat.zero_lt_succ 1)]
  simp only [Result.andThen]
  rw [Oper.upon_value]
  go_wp2
  rw [run_callFunc_extern Tryd.func108 (by kernel_rfl) (by kernel_rfl) (by kernel_rfl) (e := Extern.AbiNoEscape.same) (by kernel_rfl)]
  rw [Lib.run_noEscape]
  simp only [Result.andThen]
  rw [Oper.upon_value]
  go_wp2
  rw [Lib.run_from_unsafe w ⟨b, 0, none⟩ Tryd.underlying166 Tryd.underlying137 hj hsh (by kernel_rfl)]
  simp only [Result.andThen]
  rw [Oper.upon_value]
  go_wp2
  go_end0
  exact ⟨rfl, rfl⟩

theorem bd_check (B b : Nat) (bs : List Value) (w : World) (h : Lib.IsBuilder 139 5 B b bs w) :
    Calls Tryd.prog 101 #[.pointer (some ⟨b, 0, none⟩)] w fun e w' => e = .returned (.tuple #[]) ∧ (Lib.BuilderAt 139 5 B b (.pointer (some ⟨b, 0, none⟩)) bs w' ∧ Below B w w') := by
  rcases h with h | h
  · refine (bd_check_fresh b w h.cell0 h.shape h.frozen0).mono ?_
    rintro e w' ⟨rfl, rfl⟩
    exact ⟨rfl, h.used _, (Below.refl B w).setCell (p := ⟨b, 0, none⟩) h.1 _⟩
  · refine (bd_check_used b w h.cell0).mono ?_
    rintro e w' ⟨rfl, rfl⟩
    exact ⟨rfl, h, Below.refl B _⟩

theorem bd_lt {b : Nat} {w : World} {o : Obj} (h : w.heap[b]? = some o) : b < w.heap.size := by
  rcases Nat.lt_or_ge b w.heap.size with h' | h'
  · exact h'
  · simp [Array.getElem?_eq_none h'] at h

set_option maxRecDepth 100000 in
set_option maxHeartbeats 2000000 in
theorem write_byte (B b : Nat) (bs : List Value) (c : Int) (w : World) (h : Lib.IsBuilder 139 5 B b bs w) (hlen : bs.length + 1 ≤ 140737488355328) (hBw : B ≤ w.heap.size) :
    Calls Tryd.prog 73 #[.pointer (some ⟨b, 0, none⟩), .int .u8 c] w fun e w' => e = .returned .nilIface ∧ (Lib.IsBuilder 139 5 B b (bs ++ [.int .u8 c]) w' ∧ Below B w w') := by
  obtain ⟨i0, hi, hz0, hz1, hz2⟩ := info_parts (show (Tryd.prog.info? 5).map (fun i => (i.zero, i.size, i.bytes)) = some (some (.int .u8 0), 1, 1) by kernel_rfl)
  go_enter Tryd.func73, Tryd.ntmps73
  go_wp2_with (go_at_call 101; refine (bd_check B b bs _ h).mono ?_)
  rintro e w1 ⟨rfl, h1, hb1⟩
  obtain ⟨hB, v, hbk, hown, hne⟩ := h1
  have c0 : w1.cell? ⟨b, 0, none⟩ = some (.pointer (some ⟨b, 0, none⟩)) := by rw [Lib.cell_of_heap hbk]; rfl
  have c1 : w1.cell? ⟨b, 1, none⟩ = some v := by rw [Lib.cell_of_heap hbk]; rfl
  go_wp2_with (at_builtin; refine wpList_append_own _ rfl _ _ 38 rfl B 5 i0 (.int .u8 0) 1 1 Tryd.underlying38 hi hz0 hz1 hz2 rfl (by decide) _ _ _ rfl (hown.alloc _) ⟨w1.heap.size, 0, none⟩ 1 1 [.int .u8 c] rfl rfl ?c1 ?c2 ?c3 ?c4 ?c5 ?_)
  case c1 =>
    intro j u hj
    match j, hj with
    | 0, hj => simp at hj; subst hj; simp [Addr.add]
  case c2 => intro u hu; simp at hu; subst hu; rfl
  case c3 => unfold maxLen; omega
  case c4 => omega
  case c5 => have := hb1.size; simp; omega
  intro v' w2 hown' hgrow _
  have hlt : b < w1.heap.size := bd_lt hbk
  have hb2 : w2.heap[b]? = some (.cells #[.pointer (some ⟨b, 0, none⟩), v] 139 (0, 0)) := by
    rw [hgrow.block b (by simp; omega) (fun e => hne e.symm), Lib.alloc_old w1 _ b hlt]
    exact hbk
  have d0 : w2.cell? ⟨b, 0, none⟩ = some (.pointer (some ⟨b, 0, none⟩)) := by rw [Lib.cell_of_heap hb2]; rfl
  have d1 : w2.cell? ⟨b, 1, none⟩ = some v := by rw [Lib.cell_of_heap hb2]; rfl
  have f1 : w2.frozen? ⟨b, 1, none⟩ = false := Lib.frozen_of_heap hb2 1
  obtain ⟨g, cap, rfl⟩ : ∃ g cap, v' = .slice (some ⟨g, 0, none⟩) (bs.length + 1) cap := by
    rcases hown'.2 with ⟨_, h0⟩ | ⟨g, cap, cur, hv, _⟩
    · omega
    · exact ⟨g, cap, hv⟩
  go_wp2
  go_ret
  refine ⟨rfl, ?_, ?_⟩
  · exact .inr (Lib.BuilderAt.put (T := 139) (e := 5) hB hb2 (bs' := bs ++ [.int .u8 c]) (by simpa using hown') (by decide))
  · exact ((hb1.alloc (by have := hb1.size; omega) _).grown hgrow (by have := hb1.size; simp; omega) (fun k hk => (hown.lt k hk).1)).setCell (p := ⟨b, 1, none⟩) hB _

set_option maxRecDepth 100000 in
set_option maxHeartbeats 2000000 in
theorem write_string (B b : Nat) (bs : List Value) (s : ByteArray) (w : World) (h : Lib.IsBuilder 139 5 B b bs w) (hlen : bs.length + s.size ≤ 140737488355328) (hBw : B ≤ w.heap.size) :
    Calls Tryd.prog 75 #[.pointer (some ⟨b, 0, none⟩), .string s] w fun e w' => e = .returned (.tuple #[.int .i64 s.size, .nilIface]) ∧ (Lib.IsBuilder 139 5 B b (bs ++ Lib.strCells s) w' ∧ Below B w w') := by
  obtain ⟨i0, hi, hz0, hz1, hz2⟩ := info_parts (show (Tryd.prog.info? 5).map (fun i => (i.zero, i.size, i.bytes)) = some (some (.int .u8 0), 1, 1) by kernel_rfl)
  go_enter Tryd.func75, Tryd.ntmps75
  go_wp2_with (go_at_call 101; refine (bd_check B b bs _ h).mono ?_)
  rintro e w1 ⟨rfl, h1, hb1⟩
  obtain ⟨hB, v, hbk, hown, hne⟩ := h1
  have c0 : w1.cell? ⟨b, 0, none⟩ = some (.pointer (some ⟨b, 0, none⟩)) := by rw [Lib.cell_of_heap hbk]; rfl
  have c1 : w1.cell? ⟨b, 1, none⟩ = some v := by rw [Lib.cell_of_heap hbk]; rfl
  go_wp2_with (at_builtin; refine Lib.wpList_append_own_string _ rfl _ _ 38 9 rfl B 5 i0 Tryd.underlying38 Tryd.underlying9 hi hz0 hz1 hz2 _ _ _ rfl hown s rfl ?c3 ?c4 ?c5 ?_)
  case c3 => unfold maxLen; omega
  case c4 => omega
  case c5 => have := hb1.size; omega
  intro v' w2 hown' hgrow _
  have hlt : b < w1.heap.size := bd_lt hbk
  have hb2 : w2.heap[b]? = some (.cells #[.pointer (some ⟨b, 0, none⟩), v] 139 (0, 0)) := by
    rw [hgrow.block b hlt (fun e => hne e.symm)]
    exact hbk
  have d0 : w2.cell? ⟨b, 0, none⟩ = some (.pointer (some ⟨b, 0, none⟩)) := by rw [Lib.cell_of_heap hb2]; rfl
  have d1 : w2.cell? ⟨b, 1, none⟩ = some v := by rw [Lib.cell_of_heap hb2]; rfl
  have f1 : w2.frozen? ⟨b, 1, none⟩ = false := Lib.frozen_of_heap hb2 1
  obtain ⟨ao, n', cap, rfl⟩ : ∃ ao n' cap, v' = .slice ao n' cap := by
    rcases hown'.2 with ⟨hv, _⟩ | ⟨g, cap, cur, hv, _⟩
    · exact ⟨_, _, _, hv⟩
    · exact ⟨_, _, _, hv⟩
  go_wp2
  go_ret2
  refine ⟨rfl, ?_, ?_⟩
  · exact .inr (Lib.BuilderAt.put (T := 139) (e := 5) hB hb2 (bs' := bs ++ Lib.strCells s) (by simpa [Lib.strCells_length] using hown') (by decide))
  · exact (hb1.grown hgrow (by have := hb1.size; omega) (fun k hk => (hown.lt k hk).1)).setCell (p := ⟨b, 1, none⟩) hB _
end
section
open Go.RowKit Go.Deep Go.Maps Go.WideMaps

def letL : List (Int × Int) := [(1, 48), (2, 97), (3, 110), (4, 120), (5, 112), (6, 100), (7, 104), (8, 107), (9, 109), (10, 115), (11, 108)]
def letD : DataW Unit := letL.foldl (fun D p => D.put (.int .i64 p.1) (.lit (.int .u8 p.2))) (.map [])

/-- A literal's entry at the operation (the kit's law wpList_mapUpdate_own serves a statement's store). -/
theorem wpList_insert_own {H : Type} {P : Program} (w : World) {ops : Array Oper} {rest : List Oper} {o : Oper} {a : Act} {Q : Exit → Act → World → Prop}
    (hg : o.guard = none) (m x v : Operand) (t : TypeId) (hop : o.op = Op.insert t m x v)
    (k e : TypeId) (K : Keyed P k) (ht : P.underlying t = some (.map k e)) (R : Value → Option (DataW H × List MemPlace)) (b n : Nat) (D : DataW H)
    (hm : a.eval m = .map (some b)) (hown : w.ownsMap P k R b n D) (hn : n < maxLen) (key val : Value) (kl : Lit) (hx : a.eval x = key) (hv : a.eval v = val) (hkey : keyOf P k key = some kl)
    (d : DataW H) (ps : List MemPlace) (hval : R val = some (d, ps))
    (hK : ∀ w', w'.ownsMap P k R b (n + 1) (D.put kl d) → w.grownBy w' (some b) → wpList P ops Q rest (a.put o.dst undef) w') :
    wpList P ops Q (o :: rest) a w := by
  refine wpList_plain hg fun K' hK' => ?_
  obtain ⟨w', hrun, r1, r2⟩ := hown.update K ht hn hkey hval
  unfold Oper.wp
  simp [execOp, hop, hm, hx, hv, hrun, Result.andThen]
  exact hK' _ _ (hK w' r1 r2)

set_option maxRecDepth 100000 in
set_option maxHeartbeats 3200000 in
theorem letter_any (k : Int) (hk : (Lit.int .i64 k).wf = true) (w : World) : Calls Tryd.prog 56 #[.int .i64 k] w fun e w' => ∃ c, e = .returned (.int .u8 c) ∧ letD.atKey (.int .i64 k) (.lit (.int .u8 0)) = .lit (.int .u8 c) ∧ Only [] w w' := by
  have hmm := @run_makeMap Tryd.prog
  have hown : (w.alloc (.map #[] 0)).ownsMap Tryd.prog 3 (plainElem (H := Unit) Tryd.prog 5) w.heap.size 0 (.map []) := World.ownsMap_made _ _ _ _
  have HO := hide ((Only.refl [] w).alloc (.map #[] 0))
  go_enter Tryd.func56, Tryd.ntmps56
  go_wp2_with (first
    | (refine wpList_insert_own _ rfl _ _ _ 134 rfl 3 5 (int_keyed Tryd.underlying3) Tryd.underlying134 _ w.heap.size _ _ rfl hown (by unfold maxLen; omega) _ _ _ rfl rfl (keyOf_int_mk Tryd.underlying3 (by decide)) _ [] (plainElem_int Tryd.underlying5 (by decide)) ?_; intro w1 hown1 hgrow1; have HO := hide (HO.out.grown hgrow1 (fun j hj => .inr (by cases hj; exact Nat.le_refl _))); have hown := hown1; clear hown1 hgrow1)
    | (at_lookup; refine wpList_lookup_own_int _ rfl _ _ 134 rfl 3 5 .u8 (int_keyed Tryd.underlying3) Tryd.underlying134 Tryd.underlying5 (by kernel_rfl) w.heap.size _ _ rfl hown _ _ rfl (keyOf_int_mk Tryd.underlying3 hk) ?_; intro c hat _))
  go_ret
  exact ⟨c, rfl, hat, HO.out⟩
end
section
open Go.RowKit Go.Deep

abbrev IsB (B b : Nat) (bs : List Value) (w : World) : Prop := Lib.IsBuilder 139 5 B b bs w
theorem bd_only {B b : Nat} {bs : List Value} {w w' : World} (h : IsB B b bs w) (ho : Only [] w w') : IsB B b bs w' := by
  rcases h with h | h
  · obtain ⟨hB, v, hb, hown, hne⟩ := h
    exact .inl ⟨hB, v, (ho.block b (bd_lt hb) (by simp)).trans hb, own_only hown ho (by simp), hne⟩
  · obtain ⟨hB, v, hb, hown, hne⟩ := h
    exact .inr ⟨hB, v, (ho.block b (bd_lt hb) (by simp)).trans hb, own_only hown ho (by simp), hne⟩
theorem only_of_below {w w' : World} (h : Below w.heap.size w w') : Only [] w w' := ⟨h.os, h.tape, h.output, h.size, fun k hk _ => h.block k hk⟩
theorem below_of_only {B : Nat} {w w' : World} (h : Only [] w w') (hB : B ≤ w.heap.size) : Below B w w' := h.below (fun x hx => by cases hx) hB
end
section
open Go.RowKit Go.Deep

theorem bc_push (bs : List UInt8) (c : UInt8) : Lib.byteCells bs ++ [Value.int .u8 (c.toNat : Int)] = Lib.byteCells (bs ++ [c]) := by simp [Lib.byteCells]
theorem bc_string (bs l : List UInt8) : Lib.byteCells bs ++ Lib.strCells ⟨l.toArray⟩ = Lib.byteCells (bs ++ l) := by simp [Lib.byteCells, Lib.strCells]
theorem bc_len (bs : List UInt8) : (Lib.byteCells bs).length = bs.length := by simp [Lib.byteCells]
theorem isb_eq {B b : Nat} {bs cs : List Value} {w : World} (h : IsB B b bs w) (e : bs = cs) : IsB B b cs w := e ▸ h
end
section
open Go.RowKit Go.Deep

theorem joinL_snoc : ∀ (l : List ByteArray) (x : ByteArray), joinL (l ++ [x]) = joinL l ++ ((if l = [] then [] else [44]) ++ x.data.toList)
  | [], x => by simp [joinL]
  | [a], x => by simp [joinL]
  | a :: b :: r, x => by
    have h := joinL_snoc (b :: r) x
    rw [if_neg (by simp)] at h ⊢
    rw [show (a :: b :: r) ++ [x] = a :: b :: (r ++ [x]) from rfl, joinL, show b :: (r ++ [x]) = (b :: r) ++ [x] from rfl, h, joinL]
    simp
theorem joinL_take (l : List ByteArray) (k : Nat) (hk : k < l.length) : joinL (l.take (k + 1)) = joinL (l.take k) ++ ((if k = 0 then [] else [44]) ++ (l.getD k ByteArray.empty).data.toList) := by
  have h : l.take (k + 1) = l.take k ++ [l.getD k ByteArray.empty] := by
    rw [List.take_succ_eq_append_getElem hk]
    simp [List.getElem?_eq_getElem hk]
  rw [h, joinL_snoc]
  congr 2
  by_cases h0 : k = 0
  · subst h0; simp
  · rw [if_neg h0, if_neg]
    intro e
    have h2 := congrArg List.length e
    rw [List.length_take, List.length_nil] at h2
    omega
theorem joinL_take_le (l : List ByteArray) (k : Nat) : k ≤ l.length → (joinL (l.take k)).length ≤ (joinL l).length := by
  have step : ∀ j, j < l.length → (joinL (l.take j)).length ≤ (joinL (l.take (j + 1))).length := by
    intro j hj
    rw [joinL_take l j hj, List.length_append]
    omega
  have all : ∀ d j, j + d = l.length → (joinL (l.take j)).length ≤ (joinL l).length := by
    intro d
    induction d with
    | zero => intro j hj; rw [List.take_of_length_le (by omega)]; exact Nat.le_refl _
    | succ d ih => intro j hj; exact Nat.le_trans (step j (by omega)) (ih (j + 1) (by omega))
  intro hk
  exact all (l.length - k) k (by omega)
/-- What stands in front of the parts. -/
def headL (k : Int) (n : Nat) : List UInt8 := [letU k] ++ [40] ++ (if numberedV k = true then Lib.decDigits n ++ [44] else [])
theorem txt_head (k : Int) (n : Nat) (b : List UInt8) (l : List ByteArray) (h5 : 5 ≤ k) (hl : numberedV k = true → l ≠ []) : txtL k n b l = headL k n ++ joinL l ++ [41] := by
  unfold txtL headL
  rw [if_neg (by omega), if_neg (by omega), if_neg (by omega)]
  cases h : numberedV k with
  | true => rw [if_pos rfl, if_pos rfl, if_neg (hl h)]; simp
  | false => rw [if_neg (by decide), if_neg (by decide)]; simp
theorem fresh_bc (w : World) : IsB w.heap.size w.heap.size (Lib.byteCells []) (w.alloc (.cells #[.pointer none, .slice none 0 0] 139)) := Lib.fresh_isBuilder _ _ _
theorem bc_bytes (bs : List UInt8) (s : ByteArray) : Lib.byteCells bs ++ Lib.strCells s = Lib.byteCells (bs ++ s.data.toList) := by simp [Lib.byteCells, Lib.strCells]
set_option maxRecDepth 100000 in
set_option maxHeartbeats 6400000 in
theorem join_leaf (k : Int) (h1 : 1 ≤ k) (h4 : k ≤ 4) (n : Nat) (hn : n < 18446744073709551616) (bv lv : Value) (b : List UInt8) (l : List ByteArray) (w : World) (hb : k = 4 → b.length ≤ 1000000 ∧ Rd w [] bv (ints .u8 (byts b))) (htab : Tab w) :
    Calls Tryd.prog 60 #[.int .u8 ((letU k).toNat : Nat), .int .i64 k, .int .u64 n, bv, lv] w (StrPost (txtL k n b l) w) := by
  have HDL := hide (dec_len n hn)
  have HB := hide (fresh_bc w)
  have HC := hide (show Below w.heap.size w (w.alloc (.cells #[.pointer none, .slice none 0 0] 139)) from below_of_only ((Only.refl [] w).alloc _) (Nat.le_refl _))
  have HT := hide htab
  have HN := hide hn
  clear htab hn
  rcases (show k = 1 ∨ k = 2 ∨ k = 3 ∨ k = 4 by omega) with rfl | rfl | rfl | rfl
  · clear hb
    go_enter Tryd.func60, Tryd.ntmps60
    go_wp2_with (first
      | (go_at_call 73; refine (write_byte w.heap.size w.heap.size _ _ _ HB.out (by rw [bc_len]; have := HDL.out; simp; try omega) HC.out.size).mono ?_; rintro e w1 ⟨rfl, h1, hb1⟩; have HC := hide (HC.out.trans hb1); (first | (have HB := hide (isb_eq h1 (bc_push _ (letU 1))))); clear h1 hb1)
      | (go_at_call 74; refine (Tryd.Builder_String_any w.heap.size w.heap.size _ _ HB.out HC.out.size).mono ?_; rintro e w4 ⟨rfl, hb1⟩; have HC := hide (HC.out.trans hb1); clear hb1))
    go_ret
    exact strpost rfl (only_of_below HC.out)
  · clear hb
    go_enter Tryd.func60, Tryd.ntmps60
    go_wp2_with (first
      | (go_at_call 73; refine (write_byte w.heap.size w.heap.size _ _ _ HB.out (by rw [bc_len]; have := HDL.out; simp; try omega) HC.out.size).mono ?_; rintro e w1 ⟨rfl, h1, hb1⟩; have HC := hide (HC.out.trans hb1); (first | (have HB := hide (isb_eq h1 (bc_push _ (letU 2))))); clear h1 hb1)
      | (go_at_call 76; refine (print_any n HN.out _ (HT.out.only (only_of_below HC.out) (by simp))).mono ?_; rintro e w2 ⟨rfl, ho⟩; have HB := hide (bd_only HB.out ho); have HC := hide (HC.out.trans (below_of_only ho HC.out.size)); clear ho)
      | (go_at_call 75; refine (write_string w.heap.size w.heap.size _ _ _ HB.out (by rw [bc_len]; have := HDL.out; simp [ByteArray.size]; try omega) HC.out.size).mono ?_; rintro e w3 ⟨rfl, h1, hb1⟩; have HC := hide (HC.out.trans hb1); have HB := hide (isb_eq h1 (bc_string _ _)); clear h1 hb1)
      | (go_at_call 74; refine (Tryd.Builder_String_any w.heap.size w.heap.size _ _ HB.out HC.out.size).mono ?_; rintro e w4 ⟨rfl, hb1⟩; have HC := hide (HC.out.trans hb1); clear hb1))
    go_ret
    exact strpost rfl (only_of_below HC.out)
  · clear hb
    go_enter Tryd.func60, Tryd.ntmps60
    go_wp2_with (first
      | (go_at_call 73; refine (write_byte w.heap.size w.heap.size _ _ _ HB.out (by rw [bc_len]; have := HDL.out; simp; try omega) HC.out.size).mono ?_; rintro e w1 ⟨rfl, h1, hb1⟩; have HC := hide (HC.out.trans hb1); (first | (have HB := hide (isb_eq h1 (bc_push _ (letU 3))))); clear h1 hb1)
      | (go_at_call 76; refine (print_any n HN.out _ (HT.out.only (only_of_below HC.out) (by simp))).mono ?_; rintro e w2 ⟨rfl, ho⟩; have HB := hide (bd_only HB.out ho); have HC := hide (HC.out.trans (below_of_only ho HC.out.size)); clear ho)
      | (go_at_call 75; refine (write_string w.heap.size w.heap.size _ _ _ HB.out (by rw [bc_len]; have := HDL.out; simp [ByteArray.size]; try omega) HC.out.size).mono ?_; rintro e w3 ⟨rfl, h1, hb1⟩; have HC := hide (HC.out.trans hb1); have HB := hide (isb_eq h1 (bc_string _ _)); clear h1 hb1)
      | (go_at_call 74; refine (Tryd.Builder_String_any w.heap.size w.heap.size _ _ HB.out HC.out.size).mono ?_; rintro e w4 ⟨rfl, hb1⟩; have HC := hide (HC.out.trans hb1); clear hb1))
    go_ret
    exact strpost rfl (only_of_below HC.out)
  · obtain ⟨hbl, hb⟩ := hb rfl
    have HXL := hide (show (hexS b).length ≤ 2000000 by rw [hexS_length]; omega)
    have HV := hide hb
    have HBL := hide hbl
    clear hb hbl
    go_enter Tryd.func60, Tryd.ntmps60
    go_wp2_with (first
      | (go_at_call 73; refine (write_byte w.heap.size w.heap.size _ _ _ HB.out (by rw [bc_len]; have := HDL.out; simp; try omega) HC.out.size).mono ?_; rintro e w1 ⟨rfl, h1, hb1⟩; have HC := hide (HC.out.trans hb1); (first | (have HB := hide (isb_eq h1 (bc_push _ (letU 4))))); clear h1 hb1)
      | (go_at_call 77; refine (num_hex _ [] _ b (HV.out.only (only_of_below HC.out) (by simp)) HBL.out).mono ?_; rintro e w2 ⟨rfl, ho⟩; have HB := hide (bd_only HB.out ho); have HC := hide (HC.out.trans (below_of_only ho HC.out.size)); clear ho)
      | (go_at_call 75; refine (write_string w.heap.size w.heap.size _ _ _ HB.out (by rw [bc_len]; have := HXL.out; simp [ByteArray.size]; try omega) HC.out.size).mono ?_; rintro e w3 ⟨rfl, h1, hb1⟩; have HC := hide (HC.out.trans hb1); have HB := hide (isb_eq h1 (bc_string _ _)); clear h1 hb1)
      | (go_at_call 74; refine (Tryd.Builder_String_any w.heap.size w.heap.size _ _ HB.out HC.out.size).mono ?_; rintro e w4 ⟨rfl, hb1⟩; have HC := hide (HC.out.trans hb1); clear hb1))
    go_ret
    exact strpost rfl (only_of_below HC.out)

set_option maxRecDepth 100000 in
set_option maxHeartbeats 6400000 in
theorem join_gen (k : Int) (h5 : 5 ≤ k) (h11 : k ≤ 11) (h6 : k ≠ 6) (n : Nat) (hn : n < 18446744073709551616) (bv lv : Value) (b : List UInt8) (l : List ByteArray) (hl : numberedV k = true → l ≠ []) (hll : (joinL l).length ≤ 1000000) (w : World) (hv : Rd w [] lv (strs l)) (htab : Tab w) :
    Calls Tryd.prog 60 #[.int .u8 ((letU k).toNat : Nat), .int .i64 k, .int .u64 n, bv, lv] w (StrPost (txtL k n b l) w) := by
  have HDL := hide (dec_len n hn)
  have HTX := hide (txt_head k n b l h5 hl)
  have HHL := hide (show (headL k n).length ≤ 30 by unfold headL; have := dec_len n hn; simp only [List.length_append, List.length_singleton]; split <;> simp <;> omega)
  obtain ⟨A, cap, rfl, hc1, hc2⟩ := hv.form
  unfold maxLen at hc2
  rw [strs_length] at hv hc1 ⊢
  obtain ⟨m, hm⟩ : ∃ m, m = l.length := ⟨_, rfl⟩
  have HM := hide hm
  rw [← hm] at hv hc1 ⊢
  have HB := hide (fresh_bc w)
  have HC := hide (show Below w.heap.size w (w.alloc (.cells #[.pointer none, .slice none 0 0] 139)) from below_of_only ((Only.refl [] w).alloc _) (Nat.le_refl _))
  have HT := hide htab
  have HN := hide hn
  have HV := hide hv
  have HLL := hide hll
  have t1 : (k == 1) = false := by rw [beq_eq_false_iff_ne]; omega
  have t2 : (k == 2) = false := by rw [beq_eq_false_iff_ne]; omega
  have t3 : (k == 3) = false := by rw [beq_eq_false_iff_ne]; omega
  have t4 : (k == 4) = false := by rw [beq_eq_false_iff_ne]; omega
  have t6 : (k == 6) = false := by rw [beq_eq_false_iff_ne]; omega
  clear htab hn hv hl hll hm h5 h11 h6
  cases hnb : numberedV k with
  | false =>
    have HNB := hide hnb
    have HHD := hide (show headL k n = [letU k] ++ [40] by unfold headL; rw [hnb]; simp)
    clear hnb
    go_enter Tryd.func60, Tryd.ntmps60
    go_wp2_with (first
      | (go_at_call 73; refine (write_byte w.heap.size w.heap.size _ _ _ HB.out (by rw [bc_len]; have := HDL.out; simp; try omega) HC.out.size).mono ?_; rintro e w1 ⟨rfl, h1, hb1⟩; have HC := hide (HC.out.trans hb1); (first | (have HB := hide (isb_eq h1 (bc_push _ (letU k)))) | (have HB := hide (isb_eq h1 (bc_push _ 40)))); clear h1 hb1)
      | (go_at_call 57; refine (numbered_any _ _).mono ?_; rintro e w' ⟨rfl, rfl⟩; rw [HNB.out]))
    go_quiet (fail)
    go_wp2_with fail
    have HB := hide (isb_eq (bd_only HB.out ((Only.refl [] _).drewN nq)) (show _ = Lib.byteCells (headL k n ++ joinL (l.take 0)) by rw [HHD.out]; simp [joinL]))
    have HC := hide (below_drewN HC.out nq)
    go_loopw [60] (fun i wr => ∃ j : Nat, j ≤ m ∧ i = .int .i64 j ∧ Hid (IsB w.heap.size w.heap.size (Lib.byteCells (headL k n ++ joinL (l.take j))) wr) ∧ Hid (Below w.heap.size w wr)) (fun i _ => m - (intOf i).toNat)
    case atStart => exact ⟨0, Nat.zero_le _, rfl, HB, HC⟩
    case round =>
      clear HB HC
      obtain ⟨j, hj, rfl, HB, HC⟩ := hrel
      by_cases hlt : j < m
      · have hltI : (j : Int) < m := by omega
        have hjl : j < l.length := by rw [← HM.out]; exact hlt
        have HJ := hide (joinL_take l j hjl)
        have HL1 := hide (show (joinL (l.take j)).length ≤ 1000000 from Nat.le_trans (joinL_take_le l j (Nat.le_of_lt hjl)) HLL.out)
        obtain ⟨g, o, rfl, _, hg, hcell⟩ := (HV.out.only (only_of_below HC.out) (by simp)).at_.2.2.2 j (.string (l.getD j ByteArray.empty)) (by simp [strs, List.getElem?_eq_getElem hjl])
        have HL2 := hide (show (l.getD j ByteArray.empty).size ≤ 1000000 from Nat.le_trans (join_mem l _ (by rw [List.getD_eq_getElem?_getD, List.getElem?_eq_getElem hjl]; exact List.getElem_mem hjl)) HLL.out)
        generalize l.getD j ByteArray.empty = part at *
        by_cases h0 : j = 0
        · have hzero : ¬ (0 : Int) < j := by omega
          have HK0 := hide h0
          clear h0 hjl
          go_wp2_with (first
            | (go_at_call 75; refine (write_string w.heap.size w.heap.size _ _ _ HB.out (by rw [bc_len]; have := HL1.out; have := HL2.out; have := HHL.out; simp only [List.length_append, List.length_cons, List.length_nil]; omega) HC.out.size).mono ?_; rintro e w3 ⟨rfl, h1, hb1⟩; have HC := hide (HC.out.trans hb1); have HB := hide (isb_eq h1 (bc_bytes _ _)); clear h1 hb1))
          go_roundw
          case rel => exact ⟨j + 1, by omega, by go_num, hide (isb_eq HB.out (by rw [HJ.out, if_pos HK0.out]; simp)), HC⟩
          case measure => simp [intOf]; omega
        · have hpos : (0 : Int) < j := by omega
          have HK0 := hide h0
          clear h0 hjl
          go_wp2_with (first
            | (go_at_call 73; refine (write_byte w.heap.size w.heap.size _ _ _ HB.out (by rw [bc_len]; have := HL1.out; have := HL2.out; have := HHL.out; simp only [List.length_append, List.length_cons, List.length_nil]; omega) HC.out.size).mono ?_; rintro e w1 ⟨rfl, h1, hb1⟩; have HC := hide (HC.out.trans hb1); (first | (have HB := hide (isb_eq h1 (bc_push _ 44)))); clear h1 hb1)
            | (go_at_call 75; refine (write_string w.heap.size w.heap.size _ _ _ HB.out (by rw [bc_len]; have := HL1.out; have := HL2.out; have := HHL.out; simp only [List.length_append, List.length_cons, List.length_nil]; omega) HC.out.size).mono ?_; rintro e w3 ⟨rfl, h1, hb1⟩; have HC := hide (HC.out.trans hb1); have HB := hide (isb_eq h1 (bc_bytes _ _)); clear h1 hb1))
          go_roundw
          case rel => exact ⟨j + 1, by omega, by go_num, hide (isb_eq HB.out (by rw [HJ.out, if_neg HK0.out]; simp)), HC⟩
          case measure => simp [intOf]; omega
      · have hge : ¬ (j : Int) < m := by omega
        have HB := hide (isb_eq HB.out (show _ = Lib.byteCells (headL k n ++ joinL l) by rw [List.take_of_length_le (by have := HM.out; omega)]))
        have HL1 := HLL
        go_wp2_with (first
          | (go_at_call 73; refine (write_byte w.heap.size w.heap.size _ _ _ HB.out (by rw [bc_len]; have := HL1.out; have := HHL.out; simp only [List.length_append, List.length_cons, List.length_nil]; omega) HC.out.size).mono ?_; rintro e w1 ⟨rfl, h1, hb1⟩; have HC := hide (HC.out.trans hb1); (first | (have HB := hide (isb_eq h1 (bc_push _ 41)))); clear h1 hb1)
          | (go_at_call 74; refine (Tryd.Builder_String_any w.heap.size w.heap.size _ _ HB.out HC.out.size).mono ?_; rintro e w4 ⟨rfl, hb1⟩; have HC := hide (HC.out.trans hb1); clear hb1))
        go_ret
        exact strpost (by rw [HTX.out]; simp) (only_of_below HC.out)
  | true =>
    have HNB := hide hnb
    have HHD := hide (show headL k n = [letU k] ++ [40] ++ (Lib.decDigits n ++ [44]) by unfold headL; rw [hnb]; simp)
    clear hnb
    go_enter Tryd.func60, Tryd.ntmps60
    go_wp2_with (first
      | (go_at_call 73; refine (write_byte w.heap.size w.heap.size _ _ _ HB.out (by rw [bc_len]; have := HDL.out; simp; try omega) HC.out.size).mono ?_; rintro e w1 ⟨rfl, h1, hb1⟩; have HC := hide (HC.out.trans hb1); (first | (have HB := hide (isb_eq h1 (bc_push _ (letU k)))) | (have HB := hide (isb_eq h1 (bc_push _ 40))) | (have HB := hide (isb_eq h1 (bc_push _ 44)))); clear h1 hb1)
      | (go_at_call 57; refine (numbered_any _ _).mono ?_; rintro e w' ⟨rfl, rfl⟩; rw [HNB.out])
      | (go_at_call 76; refine (print_any n HN.out _ (HT.out.only (only_of_below HC.out) (by simp))).mono ?_; rintro e w2 ⟨rfl, ho⟩; have HB := hide (bd_only HB.out ho); have HC := hide (HC.out.trans (below_of_only ho HC.out.size)); clear ho)
      | (go_at_call 75; refine (write_string w.heap.size w.heap.size _ _ _ HB.out (by rw [bc_len]; have := HDL.out; simp [ByteArray.size]; try omega) HC.out.size).mono ?_; rintro e w3 ⟨rfl, h1, hb1⟩; have HC := hide (HC.out.trans hb1); have HB := hide (isb_eq h1 (bc_string _ _)); clear h1 hb1))
    go_quiet (fail)
    go_wp2_with fail
    have HB := hide (isb_eq (bd_only HB.out ((Only.refl [] _).drewN nq)) (show _ = Lib.byteCells (headL k n ++ joinL (l.take 0)) by rw [HHD.out]; simp [joinL]))
    have HC := hide (below_drewN HC.out nq)
    go_loopw [60] (fun i wr => ∃ j : Nat, j ≤ m ∧ i = .int .i64 j ∧ Hid (IsB w.heap.size w.heap.size (Lib.byteCells (headL k n ++ joinL (l.take j))) wr) ∧ Hid (Below w.heap.size w wr)) (fun i _ => m - (intOf i).toNat)
    case atStart => exact ⟨0, Nat.zero_le _, rfl, HB, HC⟩
    case round =>
      clear HB HC
      obtain ⟨j, hj, rfl, HB, HC⟩ := hrel
      by_cases hlt : j < m
      · have hltI : (j : Int) < m := by omega
        have hjl : j < l.length := by rw [← HM.out]; exact hlt
        have HJ := hide (joinL_take l j hjl)
        have HL1 := hide (show (joinL (l.take j)).length ≤ 1000000 from Nat.le_trans (joinL_take_le l j (Nat.le_of_lt hjl)) HLL.out)
        obtain ⟨g, o, rfl, _, hg, hcell⟩ := (HV.out.only (only_of_below HC.out) (by simp)).at_.2.2.2 j (.string (l.getD j ByteArray.empty)) (by simp [strs, List.getElem?_eq_getElem hjl])
        have HL2 := hide (show (l.getD j ByteArray.empty).size ≤ 1000000 from Nat.le_trans (join_mem l _ (by rw [List.getD_eq_getElem?_getD, List.getElem?_eq_getElem hjl]; exact List.getElem_mem hjl)) HLL.out)
        generalize l.getD j ByteArray.empty = part at *
        by_cases h0 : j = 0
        · have hzero : ¬ (0 : Int) < j := by omega
          have HK0 := hide h0
          clear h0 hjl
          go_wp2_with (first
            | (go_at_call 75; refine (write_string w.heap.size w.heap.size _ _ _ HB.out (by rw [bc_len]; have := HL1.out; have := HL2.out; have := HHL.out; simp only [List.length_append, List.length_cons, List.length_nil]; omega) HC.out.size).mono ?_; rintro e w3 ⟨rfl, h1, hb1⟩; have HC := hide (HC.out.trans hb1); have HB := hide (isb_eq h1 (bc_bytes _ _)); clear h1 hb1))
          go_roundw
          case rel => exact ⟨j + 1, by omega, by go_num, hide (isb_eq HB.out (by rw [HJ.out, if_pos HK0.out]; simp)), HC⟩
          case measure => simp [intOf]; omega
        · have hpos : (0 : Int) < j := by omega
          have HK0 := hide h0
          clear h0 hjl
          go_wp2_with (first
            | (go_at_call 73; refine (write_byte w.heap.size w.heap.size _ _ _ HB.out (by rw [bc_len]; have := HL1.out; have := HL2.out; have := HHL.out; simp only [List.length_append, List.length_cons, List.length_nil]; omega) HC.out.size).mono ?_; rintro e w1 ⟨rfl, h1, hb1⟩; have HC := hide (HC.out.trans hb1); (first | (have HB := hide (isb_eq h1 (bc_push _ 44)))); clear h1 hb1)
            | (go_at_call 75; refine (write_string w.heap.size w.heap.size _ _ _ HB.out (by rw [bc_len]; have := HL1.out; have := HL2.out; have := HHL.out; simp only [List.length_append, List.length_cons, List.length_nil]; omega) HC.out.size).mono ?_; rintro e w3 ⟨rfl, h1, hb1⟩; have HC := hide (HC.out.trans hb1); have HB := hide (isb_eq h1 (bc_bytes _ _)); clear h1 hb1))
          go_roundw
          case rel => exact ⟨j + 1, by omega, by go_num, hide (isb_eq HB.out (by rw [HJ.out, if_neg HK0.out]; simp)), HC⟩
          case measure => simp [intOf]; omega
      · have hge : ¬ (j : Int) < m := by omega
        have HB := hide (isb_eq HB.out (show _ = Lib.byteCells (headL k n ++ joinL l) by rw [List.take_of_length_le (by have := HM.out; omega)]))
        have HL1 := HLL
        go_wp2_with (first
          | (go_at_call 73; refine (write_byte w.heap.size w.heap.size _ _ _ HB.out (by rw [bc_len]; have := HL1.out; have := HHL.out; simp only [List.length_append, List.length_cons, List.length_nil]; omega) HC.out.size).mono ?_; rintro e w1 ⟨rfl, h1, hb1⟩; have HC := hide (HC.out.trans hb1); (first | (have HB := hide (isb_eq h1 (bc_push _ 41)))); clear h1 hb1)
          | (go_at_call 74; refine (Tryd.Builder_String_any w.heap.size w.heap.size _ _ HB.out HC.out.size).mono ?_; rintro e w4 ⟨rfl, hb1⟩; have HC := hide (HC.out.trans hb1); clear hb1))
        go_ret
        exact strpost (by rw [HTX.out]; simp) (only_of_below HC.out)
end
section
open Go.RowKit Go.Deep Go.Maps Go.WideMaps

theorem letD_at (k : Int) : letD.atKey (.int .i64 k) (.lit (.int .u8 0)) = .lit (.int .u8 ((letU k).toNat : Nat)) := by
  by_cases h : 1 ≤ k ∧ k ≤ 11
  · obtain ⟨h1, h2⟩ := h
    rcases (show k = 1 ∨ k = 2 ∨ k = 3 ∨ k = 4 ∨ k = 5 ∨ k = 6 ∨ k = 7 ∨ k = 8 ∨ k = 9 ∨ k = 10 ∨ k = 11 by omega) with rfl | rfl | rfl | rfl | rfl | rfl | rfl | rfl | rfl | rfl | rfl
    all_goals rfl
  · have e : letD = DataW.map (letL.map fun p => (Lit.int .i64 p.1, DataW.lit (.int .u8 p.2))) := by rfl
    have h0 : letU k = 0 := by
      unfold letU
      repeat rw [if_neg (by omega)]
    rw [e, h0]
    refine Go.WideAt.atKey_none _ fun p hp => ?_
    obtain ⟨q, hq, rfl⟩ := List.mem_map.1 hp
    intro e2
    injection e2 with _ e3
    apply h
    simp only [letL, List.mem_cons, List.not_mem_nil, or_false] at hq
    rcases hq with rfl | rfl | rfl | rfl | rfl | rfl | rfl | rfl | rfl | rfl | rfl
    all_goals (simp only at e3; omega)
theorem letter_of (k : Int) (hk : (Lit.int .i64 k).wf = true) (w : World) : Calls Tryd.prog 56 #[.int .i64 k] w fun e w' => e = .returned (.int .u8 ((letU k).toNat : Nat)) ∧ Only [] w w' :=
  (letter_any k hk w).mono fun e w' ⟨c, he, hat, ho⟩ => by
    rw [letD_at] at hat
    injection hat with h3
    injection h3 with _ h4
    rw [← h4] at he
    exact ⟨he, ho⟩
theorem let_zero {k : Int} (h : ¬ (1 ≤ k ∧ k ≤ 11)) : letU k = 0 := by
  unfold letU
  repeat rw [if_neg (by omega)]
theorem let_pos {k : Int} (h : 1 ≤ k ∧ k ≤ 11) : (((letU k).toNat : Nat) : Int) ≠ 0 := by
  obtain ⟨h1, h2⟩ := h
  rcases (show k = 1 ∨ k = 2 ∨ k = 3 ∨ k = 4 ∨ k = 5 ∨ k = 6 ∨ k = 7 ∨ k = 8 ∨ k = 9 ∨ k = 10 ∨ k = 11 by omega) with rfl | rfl | rfl | rfl | rfl | rfl | rfl | rfl | rfl | rfl | rfl
  all_goals decide
theorem kind_zero (p : ByteArray) : kindT p = 0 ↔ (parseV p).isSome = false := by
  unfold kindT
  cases h : parseV p with
  | none => simp
  | some nd =>
    obtain ⟨k, n, b, l⟩ := nd
    have := (read_make h).2.1
    simp
    omega
/-- The parts' lengths, one more for each. -/
def sumL : List ByteArray → Nat
  | [] => 0
  | a :: r => a.size + 1 + sumL r
theorem sumL_snoc (l : List ByteArray) (x : ByteArray) : sumL (l ++ [x]) = sumL l + (x.size + 1) := by
  induction l with
  | nil => simp [sumL]
  | cons a r ih => rw [List.cons_append, sumL, sumL, ih]; omega
theorem sumL_take (l : List ByteArray) (k : Nat) (hk : k < l.length) : sumL (l.take (k + 1)) = sumL (l.take k) + ((l.getD k ByteArray.empty).size + 1) := by
  have h : l.take (k + 1) = l.take k ++ [l.getD k ByteArray.empty] := by
    rw [List.take_succ_eq_append_getElem hk]
    simp [List.getElem?_eq_getElem hk]
  rw [h, sumL_snoc]
theorem sumL_mono (l : List ByteArray) (k : Nat) : sumL (l.take k) ≤ sumL l := by
  induction l generalizing k with
  | nil => simp
  | cons a r ih =>
    cases k with
    | zero => simp [sumL]
    | succ k => rw [List.take_succ_cons, sumL, sumL]; have := ih k; omega
theorem join_sum : ∀ l : List ByteArray, l ≠ [] → (joinL l).length + 1 = sumL l
  | [], h => absurd rfl h
  | [a], _ => by rw [joinL, sumL, sumL]; rfl
  | a :: b :: r, _ => by
    have h := join_sum (b :: r) (by simp)
    rw [joinL, sumL, List.length_append, List.length_cons, ← h]
    show a.size + _ + 1 = _
    omega
theorem join_le (l : List ByteArray) : (joinL l).length ≤ sumL l := by
  by_cases h : l = []
  · subst h; simp [joinL]
  · have := join_sum l h; omega
theorem sum_le (l : List ByteArray) : sumL l ≤ (joinL l).length + 1 := by
  by_cases h : l = []
  · subst h; simp [sumL]
  · have := join_sum l h; omega
theorem size_le (l : List ByteArray) (j : Nat) (hj : j < l.length) : (l.getD j ByteArray.empty).size ≤ sumL l := by
  have h := sumL_take l j hj
  have h2 := sumL_mono l (j + 1)
  omega
theorem sum_sort (k : Int) (l : List ByteArray) : sumL (sortV k l) = sumL l := by
  unfold sortV
  split
  · rename_i h
    obtain ⟨_, h2, _⟩ := h
    match l, h2 with
    | [a, b], _ => simp [sumL]; omega
  · rfl
section no
variable {k : Int} {n : Nat} {b : List UInt8} {l : List ByteArray}
theorem make_no (h : ¬ (1 ≤ k ∧ k ≤ 11 ∧ (numberedV k = true → allowedV k n = true) ∧ fitsV k l.length = true ∧ (∀ p ∈ l, (parseV p).isSome = true) ∧ (txtL k n b (sortV k l)).length ≤ 65536)) : makeV k n b l = ByteArray.empty := by
  unfold makeV; rw [if_neg h]
theorem make_kind (h : ¬ (1 ≤ k ∧ k ≤ 11)) : makeV k n b l = ByteArray.empty := make_no (by rintro ⟨h1, h2, _⟩; exact h ⟨h1, h2⟩)
theorem make_allow (h1 : numberedV k = true) (h2 : allowedV k n = false) : makeV k n b l = ByteArray.empty := make_no (by rintro ⟨_, _, h, _⟩; rw [h h1] at h2; cases h2)
theorem make_fits (h1 : fitsV k l.length = false) : makeV k n b l = ByteArray.empty := make_no (by rintro ⟨_, _, _, h, _⟩; rw [h] at h1; cases h1)
theorem make_big (h : 65536 < sumL l) : makeV k n b l = ByteArray.empty := make_no (by
  rintro ⟨h1, h11, _, hf, _, ht⟩
  by_cases hk : k ≤ 4
  · have hl := (fits4 h1 hk l).1 hf
    subst hl
    simp [sumL] at h
  · have h1 := txt_len5 k n b (sortV k l) (by omega)
    have h2 := sum_le (sortV k l)
    rw [sum_sort] at h2
    omega)
theorem make_data (hk : k = 4) (h : 65536 < b.length) : makeV k n b l = ByteArray.empty := make_no (by
  rintro ⟨_, _, _, _, _, ht⟩
  subst hk
  unfold txtL at ht
  rw [if_neg (by omega), if_pos rfl, List.length_cons, hexS_length] at ht
  omega)
theorem make_part {j : Nat} (hj : j < l.length) (h : kindT (l.getD j ByteArray.empty) = 0) : makeV k n b l = ByteArray.empty := make_no (by
  rintro ⟨_, _, _, _, hp, _⟩
  have := hp (l.getD j ByteArray.empty) (by rw [List.getD_eq_getElem?_getD, List.getElem?_eq_getElem hj]; exact List.getElem_mem hj)
  rw [(kind_zero _).1 h] at this
  exact Bool.noConfusion this)
theorem make_long (h : 65536 < (txtL k n b (sortV k l)).length) : makeV k n b l = ByteArray.empty := make_no (by rintro ⟨_, _, _, _, _, ht⟩; omega)
theorem make_is (h1 : 1 ≤ k ∧ k ≤ 11) (h2 : numberedV k = true → allowedV k n = true) (h3 : fitsV k l.length = true) (h4 : ∀ j, j < l.length → kindT (l.getD j ByteArray.empty) ≠ 0) (h5 : (txtL k n b (sortV k l)).length ≤ 65536) :
    makeV k n b l = bytesOf (txtL k n b (sortV k l)) := by
  unfold makeV
  refine if_pos ⟨h1.1, h1.2, h2, h3, fun p hp => ?_, h5⟩
  obtain ⟨j, hj, rfl⟩ := List.mem_iff_getElem.1 hp
  have h := h4 j hj
  rw [List.getD_eq_getElem?_getD, List.getElem?_eq_getElem hj, Option.getD_some] at h
  cases h' : (parseV l[j]).isSome with
  | true => rfl
  | false => exact absurd ((kind_zero _).2 h') h
end no
end
section
open Go.RowKit Go.Deep

/-- Blocks of other types than the Builder's own are kept. -/
def Held (w w' : World) : Prop := ∀ (g : Nat) (t : TypeId) (cs : Array Value), t ≠ 5 → t ≠ 139 → Blk w g t cs → Blk w' g t cs
theorem held_refl (w : World) : Held w w := fun _ _ _ _ _ h => h
theorem Held.trans {a b c : World} (h : Held a b) (k : Held b c) : Held a c := fun g t cs h1 h2 hb => k g t cs h1 h2 (h g t cs h1 h2 hb)
theorem held_alloc (w : World) (o : Obj) : Held w (w.alloc o) := fun _ _ _ _ _ h => h.alloc o
theorem held_set {w : World} {b : Nat} {cs : Array Value} (h : w.heap[b]? = some (.cells cs 139 (0, 0))) (i : Nat) (u : Value) : Held w (w.setCell ⟨b, i, none⟩ u) := by
  intro g t cs' _ h2 hb
  refine hb.far (p := ⟨b, i, none⟩) ?_ u
  intro e
  simp only at e
  subst e
  unfold Blk at hb
  rw [h] at hb
  simp at hb
  exact h2 hb.2.symm
theorem held_grown {w w' : World} {B n : Nat} {v : Value} {xs : List Value} (ho : w.ownsRow B 5 1 v n xs) (hg : w.grownBy w' v.ownBlock) : Held w w' := by
  intro g t cs h1 _ hb
  refine hb.grown hg ?_
  intro e
  rcases ho.2 with ⟨hv, _⟩ | ⟨g', cap, cur, hv, _, hh, _⟩
  · rw [hv] at e; cases e
  · rw [hv] at e
    simp [Value.ownBlock] at e
    subst e
    unfold Blk at hb
    rw [hh] at hb
    simp at hb
    exact h1 hb.2.symm

theorem bd_check3 (B b : Nat) (bs : List Value) (w : World) (h : Lib.IsBuilder 139 5 B b bs w) :
    Calls Tryd.prog 101 #[.pointer (some ⟨b, 0, none⟩)] w fun e w' => e = .returned (.tuple #[]) ∧ (Lib.BuilderAt 139 5 B b (.pointer (some ⟨b, 0, none⟩)) bs w' ∧ Below B w w' ∧ Held w w') := by
  rcases h with h | h
  · refine (bd_check_fresh b w h.cell0 h.shape h.frozen0).mono ?_
    rintro e w' ⟨rfl, rfl⟩
    obtain ⟨_, v, hbk, _, _⟩ := id h
    exact ⟨rfl, h.used _, (Below.refl B w).setCell (p := ⟨b, 0, none⟩) h.1 _, held_set hbk 0 _⟩
  · refine (bd_check_used b w h.cell0).mono ?_
    rintro e w' ⟨rfl, rfl⟩
    exact ⟨rfl, h, Below.refl B _, held_refl _⟩


set_option maxRecDepth 100000 in
set_option maxHeartbeats 2000000 in
theorem write_byte3 (B b : Nat) (bs : List Value) (c : Int) (w : World) (h : Lib.IsBuilder 139 5 B b bs w) (hlen : bs.length + 1 ≤ 140737488355328) (hBw : B ≤ w.heap.size) :
    Calls Tryd.prog 73 #[.pointer (some ⟨b, 0, none⟩), .int .u8 c] w fun e w' => e = .returned .nilIface ∧ (Lib.IsBuilder 139 5 B b (bs ++ [.int .u8 c]) w' ∧ Below B w w' ∧ Held w w') := by
  obtain ⟨i0, hi, hz0, hz1, hz2⟩ := info_parts (show (Tryd.prog.info? 5).map (fun i => (i.zero, i.size, i.bytes)) = some (some (.int .u8 0), 1, 1) by kernel_rfl)
  go_enter Tryd.func73, Tryd.ntmps73
  go_wp2_with (go_at_call 101; refine (bd_check3 B b bs _ h).mono ?_)
  rintro e w1 ⟨rfl, h1, hb1, hh1⟩
  obtain ⟨hB, v, hbk, hown, hne⟩ := h1
  have c0 : w1.cell? ⟨b, 0, none⟩ = some (.pointer (some ⟨b, 0, none⟩)) := by rw [Lib.cell_of_heap hbk]; rfl
  have c1 : w1.cell? ⟨b, 1, none⟩ = some v := by rw [Lib.cell_of_heap hbk]; rfl
  go_wp2_with (at_builtin; refine wpList_append_own _ rfl _ _ 38 rfl B 5 i0 (.int .u8 0) 1 1 Tryd.underlying38 hi hz0 hz1 hz2 rfl (by decide) _ _ _ rfl (hown.alloc _) ⟨w1.heap.size, 0, none⟩ 1 1 [.int .u8 c] rfl rfl ?c1 ?c2 ?c3 ?c4 ?c5 ?_)
  case c1 =>
    intro j u hj
    match j, hj with
    | 0, hj => simp at hj; subst hj; simp [Addr.add]
  case c2 => intro u hu; simp at hu; subst hu; rfl
  case c3 => unfold maxLen; omega
  case c4 => omega
  case c5 => have := hb1.size; simp; omega
  intro v' w2 hown' hgrow _
  have hlt : b < w1.heap.size := bd_lt hbk
  have hb2 : w2.heap[b]? = some (.cells #[.pointer (some ⟨b, 0, none⟩), v] 139 (0, 0)) := by
    rw [hgrow.block b (by simp; omega) (fun e => hne e.symm), Lib.alloc_old w1 _ b hlt]
    exact hbk
  have d0 : w2.cell? ⟨b, 0, none⟩ = some (.pointer (some ⟨b, 0, none⟩)) := by rw [Lib.cell_of_heap hb2]; rfl
  have d1 : w2.cell? ⟨b, 1, none⟩ = some v := by rw [Lib.cell_of_heap hb2]; rfl
  have f1 : w2.frozen? ⟨b, 1, none⟩ = false := Lib.frozen_of_heap hb2 1
  obtain ⟨g, cap, rfl⟩ : ∃ g cap, v' = .slice (some ⟨g, 0, none⟩) (bs.length + 1) cap := by
    rcases hown'.2 with ⟨_, h0⟩ | ⟨g, cap, cur, hv, _⟩
    · omega
    · exact ⟨g, cap, hv⟩
  go_wp2
  go_ret
  refine ⟨rfl, ?_, ?_, ?_⟩
  · exact .inr (Lib.BuilderAt.put (T := 139) (e := 5) hB hb2 (bs' := bs ++ [.int .u8 c]) (by simpa using hown') (by decide))
  · exact ((hb1.alloc (by have := hb1.size; omega) _).grown hgrow (by have := hb1.size; simp; omega) (fun k hk => (hown.lt k hk).1)).setCell (p := ⟨b, 1, none⟩) hB _
  · exact hh1.trans ((held_alloc w1 _).trans ((held_grown (hown.alloc _) hgrow).trans (held_set hb2 1 _)))

set_option maxRecDepth 100000 in
set_option maxHeartbeats 2000000 in
theorem write_string3 (B b : Nat) (bs : List Value) (s : ByteArray) (w : World) (h : Lib.IsBuilder 139 5 B b bs w) (hlen : bs.length + s.size ≤ 140737488355328) (hBw : B ≤ w.heap.size) :
    Calls Tryd.prog 75 #[.pointer (some ⟨b, 0, none⟩), .string s] w fun e w' => e = .returned (.tuple #[.int .i64 s.size, .nilIface]) ∧ (Lib.IsBuilder 139 5 B b (bs ++ Lib.strCells s) w' ∧ Below B w w' ∧ Held w w') := by
  obtain ⟨i0, hi, hz0, hz1, hz2⟩ := info_parts (show (Tryd.prog.info? 5).map (fun i => (i.zero, i.size, i.bytes)) = some (some (.int .u8 0), 1, 1) by kernel_rfl)
  go_enter Tryd.func75, Tryd.ntmps75
  go_wp2_with (go_at_call 101; refine (bd_check3 B b bs _ h).mono ?_)
  rintro e w1 ⟨rfl, h1, hb1, hh1⟩
  obtain ⟨hB, v, hbk, hown, hne⟩ := h1
  have c0 : w1.cell? ⟨b, 0, none⟩ = some (.pointer (some ⟨b, 0, none⟩)) := by rw [Lib.cell_of_heap hbk]; rfl
  have c1 : w1.cell? ⟨b, 1, none⟩ = some v := by rw [Lib.cell_of_heap hbk]; rfl
  go_wp2_with (at_builtin; refine Lib.wpList_append_own_string _ rfl _ _ 38 9 rfl B 5 i0 Tryd.underlying38 Tryd.underlying9 hi hz0 hz1 hz2 _ _ _ rfl hown s rfl ?c3 ?c4 ?c5 ?_)
  case c3 => unfold maxLen; omega
  case c4 => omega
  case c5 => have := hb1.size; omega
  intro v' w2 hown' hgrow _
  have hlt : b < w1.heap.size := bd_lt hbk
  have hb2 : w2.heap[b]? = some (.cells #[.pointer (some ⟨b, 0, none⟩), v] 139 (0, 0)) := by
    rw [hgrow.block b hlt (fun e => hne e.symm)]
    exact hbk
  have d0 : w2.cell? ⟨b, 0, none⟩ = some (.pointer (some ⟨b, 0, none⟩)) := by rw [Lib.cell_of_heap hb2]; rfl
  have d1 : w2.cell? ⟨b, 1, none⟩ = some v := by rw [Lib.cell_of_heap hb2]; rfl
  have f1 : w2.frozen? ⟨b, 1, none⟩ = false := Lib.frozen_of_heap hb2 1
  obtain ⟨ao, n', cap, rfl⟩ : ∃ ao n' cap, v' = .slice ao n' cap := by
    rcases hown'.2 with ⟨hv, _⟩ | ⟨g, cap, cur, hv, _⟩
    · exact ⟨_, _, _, hv⟩
    · exact ⟨_, _, _, hv⟩
  go_wp2
  go_ret2
  refine ⟨rfl, ?_, ?_, ?_⟩
  · exact .inr (Lib.BuilderAt.put (T := 139) (e := 5) hB hb2 (bs' := bs ++ Lib.strCells s) (by simpa [Lib.strCells_length] using hown') (by decide))
  · exact (hb1.grown hgrow (by have := hb1.size; omega) (fun k hk => (hown.lt k hk).1)).setCell (p := ⟨b, 1, none⟩) hB _
  · exact hh1.trans ((held_grown hown hgrow).trans (held_set hb2 1 _))
end
section
open Go.RowKit Go.Deep

theorem hb_cell {w W : World} {g : Nat} (h : Below w.heap.size w W) (hg : g < w.heap.size) (i : Nat) : W.cell? ⟨g, i, none⟩ = w.cell? ⟨g, i, none⟩ := h.cell (p := ⟨g, i, none⟩) hg
theorem dlen (a : ByteArray) : a.data.toList.length = a.size := rfl
theorem al_ : ∀ (W : World) (n : Nat) (o : Obj), (W.drewN n).alloc o = (W.alloc o).drewN n := fun _ _ _ => rfl

set_option maxRecDepth 100000 in
set_option maxHeartbeats 6400000 in
theorem join_dh (n : Nat) (bv lv : Value) (b : List UInt8) (p q : ByteArray) (hsz : p.size + q.size ≤ 900000) (w : World) (hv : Rd w [] lv (strs [p, q])) :
    Calls Tryd.prog 60 #[.int .u8 ((letU 6).toNat : Nat), .int .i64 6, .int .u64 n, bv, lv] w (StrPost (txtL 6 n b (sortV 6 [p, q])) w) := by
  obtain ⟨A, cap, rfl, hc1, hc2⟩ := hv.form
  unfold maxLen at hc2
  obtain ⟨g, o, rfl, _, hcell⟩ := rd_strs hv (by simp)
  have hg : g < w.heap.size := by have := World.block_lt_of_cell? w _ (hcell 0 (by simp)); simpa using this
  have HD0 := hide (show w.cell? ⟨g, o, none⟩ = some (.string p) from hcell 0 (by simp))
  have HD1 := hide (show w.cell? ⟨g, o + 1, none⟩ = some (.string q) from hcell 1 (by simp))
  have HSZ := hide hsz
  have HG := hide hg
  have HB := hide (fresh_bc w)
  have HC := hide (show Below w.heap.size w (w.alloc (.cells #[.pointer none, .slice none 0 0] 139)) from below_of_only ((Only.refl [] w).alloc _) (Nat.le_refl _))
  have d0 := (hb_cell HC.out HG.out o).trans HD0.out
  have d1 := (hb_cell HC.out HG.out (o + 1)).trans HD1.out
  have HNB := hide (show numberedV 6 = false by decide)
  have al := al_
  rw [show (strs [p, q]).length = 2 from rfl] at hc1 ⊢
  clear hv hcell hsz hg
  rcases Bool.eq_false_or_eq_true (gtB p q) with hq | hq
  · have hq2 := hq
    have HTX := hide (show txtL 6 n b (sortV 6 [p, q]) = [letU 6] ++ [40] ++ q.data.toList ++ [44] ++ p.data.toList ++ [41] by rw [show sortV 6 [p, q] = [q, p] by unfold sortV; rw [if_pos (show wrong 6 [p, q] from ⟨rfl, rfl, hq2⟩)]; rfl, txt_head 6 n b _ (by omega) (by intro h; cases h)]; simp [headL, HNB.out, joinL])
    unfold gtB at hq
    clear hq2
    go_enter Tryd.func60, Tryd.ntmps60
    go_wp2_with (first
      | (go_at_call 73; refine (write_byte3 w.heap.size w.heap.size _ _ _ HB.out (by rw [bc_len]; have := HSZ.out; simp only [List.length_append, List.length_cons, List.length_nil, dlen]; omega) HC.out.size).mono ?_; rintro e w1 ⟨rfl, h1, hb1, hh1⟩; have HC := hide (HC.out.trans hb1); (first | (have HB := hide (isb_eq h1 (bc_push _ (letU 6)))) | (have HB := hide (isb_eq h1 (bc_push _ 40)))); clear d0 d1; have d0 := (hb_cell HC.out HG.out o).trans HD0.out; have d1 := (hb_cell HC.out HG.out (o + 1)).trans HD1.out; clear h1 hb1 hh1)
      | (go_at_call 57; refine (numbered_any _ _).mono ?_; rintro e w' ⟨rfl, rfl⟩; rw [HNB.out]))
    go_quiet (fail)
    go_wp2_with fail
    go_region
    go_wp2_with fail
    have HB := hide (bd_only HB.out (((Only.refl [] w1).alloc (.cells #[.string q, .string p] 9)).drewN (nq + 1)))
    have HC := hide (below_drewN (HC.out.alloc (by have := HC.out.size; omega) (.cells #[.string q, .string p] 9)) (nq + 1))
    have HK := hide ((Blk.new w1 9 #[.string q, .string p]).drewN (nq + 1))
    generalize (w1.alloc (.cells #[.string q, .string p] 9)).drewN (nq + 1) = wq at *
    generalize w1.heap.size = G at *
    have HCE := hide (show ∀ W, Held wq W → Below w.heap.size w W → W.cell? ⟨G, 0, none⟩ = some (.string q) ∧ W.cell? ⟨G, 1, none⟩ = some (.string p) from fun W hh _ => ⟨(hh _ _ _ (by decide) (by decide) HK.out).cell 0, (hh _ _ _ (by decide) (by decide) HK.out).cell 1⟩)
    have HH := hide (held_refl wq)
    clear d0 d1
    obtain ⟨c0, c1⟩ := HCE.out _ HH.out HC.out
    refine wp_loop_rounds 3 ?_
    rw [rounds_succ]
    go_wp2_with (first
      | (go_at_call 75; refine (write_string3 w.heap.size w.heap.size _ _ _ HB.out (by rw [bc_len]; have := HSZ.out; simp only [List.length_append, List.length_cons, List.length_nil, dlen]; omega) HC.out.size).mono ?_; rintro e w3 ⟨rfl, h1, hb1, hh1⟩; have HC := hide (HC.out.trans hb1); have HB := hide (isb_eq h1 (bc_bytes _ _)); have HH := hide (HH.out.trans hh1); clear c0 c1; obtain ⟨c0, c1⟩ := HCE.out _ HH.out HC.out; clear h1 hb1 hh1))
    rw [rounds_succ]
    go_wp2_with (first
      | (go_at_call 73; refine (write_byte3 w.heap.size w.heap.size _ _ _ HB.out (by rw [bc_len]; have := HSZ.out; simp only [List.length_append, List.length_cons, List.length_nil, dlen]; omega) HC.out.size).mono ?_; rintro e w1 ⟨rfl, h1, hb1, hh1⟩; have HC := hide (HC.out.trans hb1); (first | (have HB := hide (isb_eq h1 (bc_push _ 44)))); have HH := hide (HH.out.trans hh1); clear c0 c1; obtain ⟨c0, c1⟩ := HCE.out _ HH.out HC.out; clear h1 hb1 hh1)
      | (go_at_call 75; refine (write_string3 w.heap.size w.heap.size _ _ _ HB.out (by rw [bc_len]; have := HSZ.out; simp only [List.length_append, List.length_cons, List.length_nil, dlen]; omega) HC.out.size).mono ?_; rintro e w3 ⟨rfl, h1, hb1, hh1⟩; have HC := hide (HC.out.trans hb1); have HB := hide (isb_eq h1 (bc_bytes _ _)); have HH := hide (HH.out.trans hh1); clear c0 c1; obtain ⟨c0, c1⟩ := HCE.out _ HH.out HC.out; clear h1 hb1 hh1))
    rw [rounds_succ]
    go_wp2_with (first
      | (go_at_call 73; refine (write_byte3 w.heap.size w.heap.size _ _ _ HB.out (by rw [bc_len]; have := HSZ.out; simp only [List.length_append, List.length_cons, List.length_nil, dlen]; omega) HC.out.size).mono ?_; rintro e w1 ⟨rfl, h1, hb1, hh1⟩; have HC := hide (HC.out.trans hb1); (first | (have HB := hide (isb_eq h1 (bc_push _ 41)))); have HH := hide (HH.out.trans hh1); clear c0 c1; obtain ⟨c0, c1⟩ := HCE.out _ HH.out HC.out; clear h1 hb1 hh1)
      | (go_at_call 74; refine (Tryd.Builder_String_any w.heap.size w.heap.size _ _ HB.out HC.out.size).mono ?_; rintro e w4 ⟨rfl, hb1⟩; have HC := hide (HC.out.trans hb1); clear hb1))
    go_ret
    exact strpost (by rw [HTX.out]; simp) (only_of_below HC.out)
  · have hq2 := hq
    have HTX := hide (show txtL 6 n b (sortV 6 [p, q]) = [letU 6] ++ [40] ++ p.data.toList ++ [44] ++ q.data.toList ++ [41] by rw [show sortV 6 [p, q] = [p, q] by unfold sortV; rw [if_neg (show ¬ wrong 6 [p, q] by rintro ⟨_, _, h⟩; rw [show gtB ([p, q].getD 0 ByteArray.empty) ([p, q].getD 1 ByteArray.empty) = gtB p q from rfl, hq2] at h; cases h)], txt_head 6 n b _ (by omega) (by intro h; cases h)]; simp [headL, HNB.out, joinL])
    unfold gtB at hq
    clear hq2
    go_enter Tryd.func60, Tryd.ntmps60
    go_wp2_with (first
      | (go_at_call 73; refine (write_byte3 w.heap.size w.heap.size _ _ _ HB.out (by rw [bc_len]; have := HSZ.out; simp only [List.length_append, List.length_cons, List.length_nil, dlen]; omega) HC.out.size).mono ?_; rintro e w1 ⟨rfl, h1, hb1, hh1⟩; have HC := hide (HC.out.trans hb1); (first | (have HB := hide (isb_eq h1 (bc_push _ (letU 6)))) | (have HB := hide (isb_eq h1 (bc_push _ 40)))); clear d0 d1; have d0 := (hb_cell HC.out HG.out o).trans HD0.out; have d1 := (hb_cell HC.out HG.out (o + 1)).trans HD1.out; clear h1 hb1 hh1)
      | (go_at_call 57; refine (numbered_any _ _).mono ?_; rintro e w' ⟨rfl, rfl⟩; rw [HNB.out]))
    go_quiet (fail)
    go_wp2_with fail
    have HB := hide (bd_only HB.out ((Only.refl [] w1).drewN nq))
    have HC := hide (below_drewN HC.out nq)
    generalize w1.drewN nq = wq at *
    have HCE := hide (show ∀ W, Held wq W → Below w.heap.size w W → W.cell? ⟨g, o, none⟩ = some (.string p) ∧ W.cell? ⟨g, o + 1, none⟩ = some (.string q) from fun W _ hb => ⟨(hb_cell hb HG.out o).trans HD0.out, (hb_cell hb HG.out (o + 1)).trans HD1.out⟩)
    have HH := hide (held_refl wq)
    clear d0 d1
    obtain ⟨c0, c1⟩ := HCE.out _ HH.out HC.out
    refine wp_loop_rounds 3 ?_
    rw [rounds_succ]
    go_wp2_with (first
      | (go_at_call 75; refine (write_string3 w.heap.size w.heap.size _ _ _ HB.out (by rw [bc_len]; have := HSZ.out; simp only [List.length_append, List.length_cons, List.length_nil, dlen]; omega) HC.out.size).mono ?_; rintro e w3 ⟨rfl, h1, hb1, hh1⟩; have HC := hide (HC.out.trans hb1); have HB := hide (isb_eq h1 (bc_bytes _ _)); have HH := hide (HH.out.trans hh1); clear c0 c1; obtain ⟨c0, c1⟩ := HCE.out _ HH.out HC.out; clear h1 hb1 hh1))
    rw [rounds_succ]
    go_wp2_with (first
      | (go_at_call 73; refine (write_byte3 w.heap.size w.heap.size _ _ _ HB.out (by rw [bc_len]; have := HSZ.out; simp only [List.length_append, List.length_cons, List.length_nil, dlen]; omega) HC.out.size).mono ?_; rintro e w1 ⟨rfl, h1, hb1, hh1⟩; have HC := hide (HC.out.trans hb1); (first | (have HB := hide (isb_eq h1 (bc_push _ 44)))); have HH := hide (HH.out.trans hh1); clear c0 c1; obtain ⟨c0, c1⟩ := HCE.out _ HH.out HC.out; clear h1 hb1 hh1)
      | (go_at_call 75; refine (write_string3 w.heap.size w.heap.size _ _ _ HB.out (by rw [bc_len]; have := HSZ.out; simp only [List.length_append, List.length_cons, List.length_nil, dlen]; omega) HC.out.size).mono ?_; rintro e w3 ⟨rfl, h1, hb1, hh1⟩; have HC := hide (HC.out.trans hb1); have HB := hide (isb_eq h1 (bc_bytes _ _)); have HH := hide (HH.out.trans hh1); clear c0 c1; obtain ⟨c0, c1⟩ := HCE.out _ HH.out HC.out; clear h1 hb1 hh1))
    rw [rounds_succ]
    go_wp2_with (first
      | (go_at_call 73; refine (write_byte3 w.heap.size w.heap.size _ _ _ HB.out (by rw [bc_len]; have := HSZ.out; simp only [List.length_append, List.length_cons, List.length_nil, dlen]; omega) HC.out.size).mono ?_; rintro e w1 ⟨rfl, h1, hb1, hh1⟩; have HC := hide (HC.out.trans hb1); (first | (have HB := hide (isb_eq h1 (bc_push _ 41)))); have HH := hide (HH.out.trans hh1); clear c0 c1; obtain ⟨c0, c1⟩ := HCE.out _ HH.out HC.out; clear h1 hb1 hh1)
      | (go_at_call 74; refine (Tryd.Builder_String_any w.heap.size w.heap.size _ _ HB.out HC.out.size).mono ?_; rintro e w4 ⟨rfl, hb1⟩; have HC := hide (HC.out.trans hb1); clear hb1))
    go_ret
    exact strpost (by rw [HTX.out]; simp) (only_of_below HC.out)
end
end Go.Proofs.YtfipdjlalfpbnaaDoor

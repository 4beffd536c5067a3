/-
  Walks and plain words (texts Bk0, Bk1, BkA, Bk2, Bk3, Ret, Bk4, Bk5). No condition beyond those that each theorem states.
-/
import Derived.Test.YtahocmccaljplaaChecked
import Derived.Maps.AppendAt
import Derived.Laws.Append
import Derived.Maps.OwnOps
import Derived.Maps.Views
import Derived.Maps.Range
import Derived.DeepKeys4
import Derived.Deep.AppendLies
import Derived.Test.YtahocmccaljplaaP01
namespace Go.Proofs.Ytahocmccaljplaa
section
open Go.RowKit

structure Rc where
  k : Int
  a : Int
  p : Int
  b : List UInt8
  n : Int
/-- x taken, y written: the same way, the same bytes? -/
def fitB (x y : Rc) : Bool := decide (x.k = 1 ∧ x.a = y.p ∧ x.p = y.a ∧ x.b = y.b)
def freeB (l : List Rc) (out : List Int) (y : Rc) (k : Nat) : Bool := (match l[k]? with | some x => fitB x y | none => false) && decide (out.getD k 0 < 0)
def stepM (l : List Rc) (out : List Int) (i : Nat) : List Int := match l[i]? with
  | some y => if y.k = 2 then (match (List.range i).find? (freeB l out y) with | some k => (out.set i (k : Nat)).set k (i : Nat) | none => out) else out
  | none => out
def matchN (l : List Rc) : Nat → List Int
  | 0 => List.replicate l.length (-1)
  | i + 1 => stepM l (matchN l i) i
/-- Those who wait for y, when i records are gone through. -/
def rowM (l : List Rc) (i : Nat) (y : Rc) : List Nat := (List.range i).filter (freeB l (matchN l i) y)
def InvM (l : List Rc) (i : Nat) (out : List Int) : Prop :=
  out.length = l.length ∧ (∀ j, i ≤ j → j < l.length → out[j]? = some (-1)) ∧
  ∀ (j : Nat) (v : Int), out[j]? = some v → v = -1 ∨ ∃ k : Nat, v = k ∧ k < i ∧ k ≠ j ∧ out[k]? = some (j : Int)
theorem range_succ' (i : Nat) : List.range (i + 1) = List.range i ++ [i] := List.range_succ
theorem find_filter {α : Type} (p : α → Bool) : ∀ l : List α, l.find? p = (l.filter p).head?
  | [] => rfl
  | x :: l => by
    by_cases h : p x = true
    · rw [List.find?_cons_of_pos h, List.filter_cons_of_pos h]; rfl
    · rw [List.find?_cons_of_neg h, List.filter_cons_of_neg h]; exact find_filter p l
theorem step_none (l : List Rc) (i : Nat) (y : Rc) (hy : l[i]? = some y) (h : y.k ≠ 2) : matchN l (i + 1) = matchN l i := by
  show stepM l (matchN l i) i = _
  unfold stepM; rw [hy]; simp only; rw [if_neg h]
theorem step_nil (l : List Rc) (i : Nat) (y : Rc) (hy : l[i]? = some y) (h : y.k = 2) (hr : rowM l i y = []) : matchN l (i + 1) = matchN l i := by
  show stepM l (matchN l i) i = _
  unfold stepM; rw [hy]; simp only; rw [if_pos h, find_filter]
  unfold rowM at hr
  rw [hr]; rfl
theorem step_cons (l : List Rc) (i : Nat) (y : Rc) (hy : l[i]? = some y) (h : y.k = 2) (k : Nat) (r : List Nat) (hr : rowM l i y = k :: r) : matchN l (i + 1) = ((matchN l i).set i (k : Nat)).set k (i : Nat) := by
  show stepM l (matchN l i) i = _
  unfold stepM; rw [hy]; simp only; rw [if_pos h, find_filter]
  unfold rowM at hr
  rw [hr]; rfl
theorem row_lt {l : List Rc} {i : Nat} {y : Rc} {k : Nat} (h : k ∈ rowM l i y) : k < i := by
  unfold rowM at h; rw [List.mem_filter, List.mem_range] at h; exact h.1
theorem row_free {l : List Rc} {i : Nat} {y : Rc} {k : Nat} (h : k ∈ rowM l i y) : freeB l (matchN l i) y k = true := by
  unfold rowM at h; rw [List.mem_filter] at h; exact h.2
theorem inv_all (l : List Rc) : ∀ i, i ≤ l.length → InvM l i (matchN l i)
  | 0, _ => by
    refine ⟨by simp [matchN], fun j _ hj => ?_, fun j v h => ?_⟩
    · simp [matchN, hj]
    · left
      simp only [matchN] at h
      rw [List.getElem?_replicate] at h
      split at h
      · exact (Option.some.inj h).symm
      · cases h
  | i + 1, hi => by
    have ih := inv_all l i (by omega)
    obtain ⟨y, hy⟩ : ∃ y, l[i]? = some y := ⟨_, List.getElem?_eq_getElem (by omega)⟩
    have same : matchN l (i + 1) = matchN l i → InvM l (i + 1) (matchN l (i + 1)) := by
      intro e
      rw [e]
      refine ⟨ih.1, fun j h1 h2 => ih.2.1 j (by omega) h2, fun j v h => ?_⟩
      rcases ih.2.2 j v h with h | ⟨k, h1, h2, h3⟩
      · exact .inl h
      · exact .inr ⟨k, h1, by omega, h3⟩
    by_cases h2 : y.k = 2
    · cases hr : rowM l i y with
      | nil => exact same (step_nil l i y hy h2 hr)
      | cons k r =>
        have e := step_cons l i y hy h2 k r hr
        have hki : k < i := row_lt (y := y) (by rw [hr]; exact List.mem_cons_self)
        have hf : freeB l (matchN l i) y k = true := row_free (by rw [hr]; exact List.mem_cons_self)
        have hk1 : (matchN l i)[k]? = some (-1) := by
          have hlt : k < (matchN l i).length := by rw [ih.1]; omega
          have hneg : (matchN l i).getD k 0 < 0 := by
            unfold freeB at hf
            rw [Bool.and_eq_true, decide_eq_true_eq] at hf
            exact hf.2
          rw [List.getD_eq_getElem?_getD, List.getElem?_eq_getElem hlt, Option.getD_some] at hneg
          rcases ih.2.2 k _ (List.getElem?_eq_getElem hlt) with h | ⟨k', h1, _⟩
          · rw [List.getElem?_eq_getElem hlt, h]
          · omega
        rw [e]
        refine ⟨by rw [List.length_set, List.length_set]; exact ih.1, fun j h1 h3 => ?_, fun j v h => ?_⟩
        · rw [List.getElem?_set_ne (by omega), List.getElem?_set_ne (by omega)]
          exact ih.2.1 j (by omega) h3
        · by_cases hjk : j = k
          · subst hjk
            rw [List.getElem?_set_self (by rw [List.length_set, ih.1]; omega)] at h
            refine .inr ⟨i, (Option.some.inj h).symm, by omega, by omega, ?_⟩
            rw [List.getElem?_set_ne (by omega), List.getElem?_set_self (by rw [ih.1]; omega)]
          · rw [List.getElem?_set_ne (Ne.symm hjk)] at h
            by_cases hji : j = i
            · subst hji
              rw [List.getElem?_set_self (by rw [ih.1]; omega)] at h
              refine .inr ⟨k, (Option.some.inj h).symm, by omega, by omega, ?_⟩
              rw [List.getElem?_set_self (by rw [List.length_set, ih.1]; omega)]
            · rw [List.getElem?_set_ne (Ne.symm hji)] at h
              rcases ih.2.2 j v h with h | ⟨k', h1, h2', h3, h4⟩
              · exact .inl h
              · refine .inr ⟨k', h1, by omega, h3, ?_⟩
                have hkk : k ≠ k' := by
                  rintro rfl
                  rw [hk1] at h4
                  have := Option.some.inj h4
                  omega
                rw [List.getElem?_set_ne hkk, List.getElem?_set_ne (by omega)]
                exact h4
    · exact same (step_none l i y hy h2)
/-- What waits goes on: another kind. -/
theorem row_same (l : List Rc) (i : Nat) (y z : Rc) (hy : l[i]? = some y) (h1 : y.k ≠ 1) (e : matchN l (i + 1) = matchN l i) : rowM l (i + 1) z = rowM l i z := by
  unfold rowM
  rw [e, range_succ', List.filter_append]
  have : freeB l (matchN l i) z i = false := by
    unfold freeB
    rw [hy]
    simp only
    unfold fitB
    rw [decide_eq_false (fun h => h1 h.1), Bool.false_and]
  rw [List.filter_cons_of_neg (by rw [this]; decide), List.filter_nil, List.append_nil]
/-- Taken: it waits last of all who go its way. -/
theorem row_take (l : List Rc) (i : Nat) (hi : i < l.length) (y z : Rc) (hy : l[i]? = some y) (h1 : y.k = 1) : rowM l (i + 1) z = if fitB y z = true then rowM l i z ++ [i] else rowM l i z := by
  have e := step_none l i y hy (by omega)
  have hn : (matchN l i).getD i 0 < 0 := by
    rw [List.getD_eq_getElem?_getD, (inv_all l i (by omega)).2.1 i (Nat.le_refl _) hi]
    decide
  unfold rowM
  rw [e, range_succ', List.filter_append]
  have : freeB l (matchN l i) z i = fitB y z := by
    unfold freeB
    rw [hy]
    simp only
    rw [decide_eq_true hn, Bool.and_true]
  by_cases hf : fitB y z = true
  · rw [if_pos hf, List.filter_cons_of_pos (by rw [this]; exact hf), List.filter_nil]
  · rw [if_neg hf, List.filter_cons_of_neg (by rw [this]; exact hf), List.filter_nil, List.append_nil]
theorem fit_same {x y z : Rc} (h1 : fitB x y = true) (h2 : fitB x z = true) : z.a = y.a ∧ z.p = y.p ∧ z.b = y.b := by
  unfold fitB at h1 h2
  rw [decide_eq_true_eq] at h1 h2
  obtain ⟨_, a, b, c⟩ := h1
  obtain ⟨_, a', b', c'⟩ := h2
  exact ⟨b'.symm.trans b, a'.symm.trans a, c'.symm.trans c⟩
theorem fit_eq {y z : Rc} (h : z.a = y.a ∧ z.p = y.p ∧ z.b = y.b) (x : Rc) : fitB x z = fitB x y := by
  unfold fitB; rw [h.1, h.2.1, h.2.2]
theorem filter_tail {α : Type} {p q : α → Bool} {k : α} : ∀ {l r : List α}, l.Nodup → l.filter p = k :: r → (∀ x ∈ l, x ≠ k → q x = p x) → q k = false → l.filter q = r := by
  intro l
  induction l with
  | nil => intro r _ h; cases h
  | cons x l ih =>
    intro r hn h hq hk
    rw [List.nodup_cons] at hn
    by_cases hx : p x = true
    · rw [List.filter_cons_of_pos hx] at h
      injection h with h1 h2
      subst h1
      rw [List.filter_cons_of_neg (by rw [hk]; decide), ← h2]
      refine List.filter_congr fun z hz => hq z (List.mem_cons_of_mem _ hz) ?_
      rintro rfl
      exact hn.1 hz
    · rw [List.filter_cons_of_neg hx] at h
      have hxk : x ≠ k := by
        rintro rfl
        have hm : x ∈ l.filter p := by rw [h]; exact List.mem_cons_self
        exact hn.1 (List.mem_filter.1 hm).1
      rw [List.filter_cons_of_neg (by rw [hq x List.mem_cons_self hxk]; exact hx)]
      exact ih hn.2 h (fun z hz => hq z (List.mem_cons_of_mem _ hz)) hk
/-- Written, and somebody waits: the first one goes. -/
theorem row_go (l : List Rc) (i : Nat) (hi : i < l.length) (y z : Rc) (hy : l[i]? = some y) (h2 : y.k = 2) (k : Nat) (r : List Nat) (hr : rowM l i y = k :: r) :
    rowM l (i + 1) z = if z.a = y.a ∧ z.p = y.p ∧ z.b = y.b then r else rowM l i z := by
  have e := step_cons l i y hy h2 k r hr
  have hki : k < i := row_lt (y := y) (by rw [hr]; exact List.mem_cons_self)
  have hf : freeB l (matchN l i) y k = true := row_free (by rw [hr]; exact List.mem_cons_self)
  have hl := (inv_all l i (by omega)).1
  obtain ⟨x, hx⟩ : ∃ x, l[k]? = some x := ⟨_, List.getElem?_eq_getElem (by omega)⟩
  have hfx : fitB x y = true := by
    unfold freeB at hf
    rw [hx, Bool.and_eq_true] at hf
    exact hf.1
  have hlast : freeB l (matchN l (i + 1)) z i = false := by
    unfold freeB
    rw [hy]
    simp only
    unfold fitB
    rw [decide_eq_false (fun h => by omega), Bool.false_and]
  have hk0 : freeB l (matchN l (i + 1)) z k = false := by
    unfold freeB
    rw [e, List.getD_eq_getElem?_getD, List.getElem?_set_self (by rw [List.length_set]; omega), Option.getD_some, decide_eq_false (show ¬ (i : Int) < 0 by omega), Bool.and_false]
  have hoth : ∀ j, j < i → j ≠ k → freeB l (matchN l (i + 1)) z j = freeB l (matchN l i) z j := by
    intro j hj hjk
    unfold freeB
    rw [e, List.getD_eq_getElem?_getD, List.getElem?_set_ne (Ne.symm hjk), List.getElem?_set_ne (by omega), ← List.getD_eq_getElem?_getD]
  unfold rowM
  rw [range_succ', List.filter_append, List.filter_cons_of_neg (by rw [hlast]; decide), List.filter_nil, List.append_nil]
  by_cases hz : z.a = y.a ∧ z.p = y.p ∧ z.b = y.b
  · rw [if_pos hz]
    refine filter_tail (p := freeB l (matchN l i) y) List.nodup_range hr (fun j hj hjk => ?_) hk0
    rw [hoth j (List.mem_range.1 hj) hjk]
    unfold freeB
    cases l[j]? with
    | none => rfl
    | some x => simp only; rw [fit_eq hz]
  · rw [if_neg hz]
    refine List.filter_congr fun j hj => ?_
    by_cases hjk : j = k
    · subst hjk
      rw [hk0]
      unfold freeB
      rw [hx]
      simp only
      cases hq : fitB x z with
      | false => rfl
      | true => exact absurd (fit_same hfx hq) hz
    · exact hoth j (List.mem_range.1 hj) hjk
end
section
open Go.RowKit Go.Deep Go.ChangeShapes Go.WideShapes Go.ChangeAt

theorem list_five {α : Type} {l : List α} (h : l.length = 5) : ∃ a b c d e, l = [a, b, c, d, e] := by
  match l, h with
  | [a, b, c, d, e], _ => exact ⟨a, b, c, d, e, rfl⟩
theorem u8_inB {n : Int} (h : (Lit.int .u8 n).wf = true) : 0 ≤ n ∧ n ≤ 255 := by
  simp only [Lit.wf, Bool.and_eq_true, decide_eq_true_eq] at h
  have e1 : IntKind.u8.min = 0 := rfl
  have e2 : IntKind.u8.max = 255 := rfl
  omega
/-- A record's cells: kind, at, peer, the bytes' slice, now. -/
def rkC (r : Rc × Value) : List Value := [.int .i64 r.1.k, .int .i64 r.1.a, .int .i64 r.1.p, r.2, .int .i64 r.1.n]
theorem rkC_len (r : Rc × Value) : (rkC r).length = 5 := rfl
def RkFit (w : World) (r : Rc × Value) : Prop := Rd w [] r.2 (ints .u8 (byts r.1.b)) ∧ (Lit.int .i64 r.1.k).wf = true ∧ (Lit.int .i64 r.1.a).wf = true ∧ (Lit.int .i64 r.1.p).wf = true ∧ (Lit.int .i64 r.1.n).wf = true
section
variable {H : Type} {enc : TypeId × Value → H} {w : World} {base : Nat} {spare : Nat → Bool} {held : Bool}
set_option maxRecDepth 100000 in
set_option maxHeartbeats 3200000 in
theorem dec_rec {n : Nat} {cs : List Value} {y : DataW H × List MemPlace} (h : DataW.trod enc Try.prog w base spare held n 26 cs = some y) : ∃ r : Rc × Value, rkC r = cs ∧ RkFit w r := by
  obtain ⟨xs, m, _, _, hl, hx, hf⟩ := DataW.trod_struct Try.underlying26 h
  rw [show Try.prog.cellsOf 26 = 5 from by kernel_rfl] at hl
  obtain ⟨a0, a1, a2, a3, a4, hc⟩ := list_five hl
  rw [hc] at hf
  have h0 := hf 0 _ rfl
  have h1 := hf 1 _ rfl
  have h2 := hf 2 _ rfl
  have h3 := hf 3 _ rfl
  have h4 := hf 4 _ rfl
  simp only [List.getElem_toArray, List.getElem_cons_zero, List.getElem_cons_succ, show Try.prog.cellsOf 3 = 1 from by kernel_rfl, show Try.prog.cellsOf 2 = 1 from by kernel_rfl, show Try.prog.cellsOf 24 = 1 from by kernel_rfl] at h0 h1 h2 h3 h4
  rw [List.getElem?_eq_getElem (by rw [hx]; decide)] at h0 h1 h2 h3 h4
  obtain ⟨n0, z0, _, w0⟩ := DataW.trod_int Try.underlying3 h0
  obtain ⟨n1, z1, _, w1⟩ := DataW.trod_int Try.underlying3 h1
  obtain ⟨n2, z2, _, w2⟩ := DataW.trod_int Try.underlying3 h2
  obtain ⟨n4, z4, _, w4⟩ := DataW.trod_int Try.underlying2 h4
  have hsl : ∃ A len cap, a3 = .slice A len cap := by
    rcases open_slice Try.underlying24 h3 with ⟨hcs, _⟩ | ⟨a, l, c', _, _, _, _, hcs, _⟩
    · simp at hcs
      exact ⟨_, _, _, hcs⟩
    · simp at hcs
      exact ⟨_, _, _, hcs⟩
  obtain ⟨A, len, cap, rfl⟩ := hsl
  obtain ⟨zs, hrd, hwf⟩ := rd_of_trod (k := .u8) (A := A) (len := len) (cap := cap) (d := (xs[3]'(by rw [hx]; decide)).1) (p := (xs[3]'(by rw [hx]; decide)).2) Try.underlying24 Try.underlying5 (by kernel_rfl) ⟨m, by simpa [Value.cells] using h3⟩
  obtain ⟨b, rfl⟩ := byts_of zs fun z hz => u8_inB (hwf z hz)
  simp at z0 z1 z2 z4
  refine ⟨(⟨n0, n1, n2, b, n4⟩, .slice A len cap), ?_, hrd, w0, w1, w2, w4⟩
  rw [hc]
  unfold rkC
  simp only
  rw [← z0, ← z1, ← z2, ← z4]
set_option maxRecDepth 100000 in
theorem open_recs {A : Option Addr} {len cap : Nat} {d : DataW H} {ps : List MemPlace} (h : DataW.Trod enc Try.prog w base spare held 22 (.slice A len cap) d ps) : ∃ l : List (Rc × Value), RdS 5 rkC w [] (.slice A len cap) l ∧ ∀ r ∈ l, RkFit w r :=
  rds_of_trod Try.underlying22 (by kernel_rfl) (by omega) h fun _ _ _ hy => dec_rec hy
end
end
section
open Go.RowKit

section
variable {P : Program} (w : World)
theorem addr_add_at (g o k : Nat) : (⟨g, o, none⟩ : Addr).add k = ⟨g, o + k, none⟩ := by
  unfold Addr.add
  split
  · rename_i h; subst h; rfl
  · rfl
theorem run_append_room_at (t ty e : TypeId) (i : TypeInfo) (ht : P.underlying t = some (.slice e)) (hi : P.info? e = some i)
    (g o sLen sCap : Nat) (cur : Array Value) (hg : w.heap[g]? = some (.cells cur e (0, 0)))
    (a : Addr) (m c : Nat) (news : List Value) (hl : news.length = m * i.size) (hnews : ∀ j u, news[j]? = some u → w.cell? (a.add j) = some u) (h1 : ∀ u ∈ news, u.oneCell' = true)
    (hroom : sLen + m ≤ sCap) (hfit : o + sLen * i.size + news.length ≤ cur.size) :
    (Builtin.append_ #[t, t] ty #[.slice (some ⟨g, o, none⟩) sLen sCap, .slice (some a) m c]).run P w =
      .ok (.slice (some ⟨g, o, none⟩) (sLen + m) sCap) (w.setRow g (cur.toList.take (o + sLen * i.size) ++ news ++ cur.toList.drop (o + sLen * i.size + news.length)).toArray) := by
  have hf := run_firstCells_some (P := P) w i.size m a m c news hl hnews
  have hst := run_storeCells_at P g (o + sLen * i.size) e news 0 cur w hg (by simpa using hfit) h1
  rw [Nat.add_zero] at hst
  simp [Builtin.append_, run_underlying ht, sizeOf, typeInfo, hi, Builtin.lenOf, hroom, hf, addr_add_at]
  rw [hst]
  simp
/-- Onto ints that stand somewhere in a block of the call's own. -/
theorem run_append_int_at (t ty e : TypeId) (i : TypeInfo) (z : Value) (bytes : Nat) (ht : P.underlying t = some (.slice e)) (hi : P.info? e = some i) (hz : i.zero = some z)
    (hsize : i.size = 1) (hby : i.bytes = bytes) (hzs : z.cells = #[z])
    (g o n cap : Nat) (cur : Array Value) (xs : List Value) (hxl : xs.length = n) (hg : w.heap[g]? = some (.cells cur e (0, 0))) (hcap : o + cap ≤ cur.size) (hxs : ∀ j u, xs[j]? = some u → cur[o + j]? = some u) (hnc : n ≤ cap)
    (a : Addr) (c : Nat) (x : Value) (hx : w.cell? a = some x) (h1 : x.oneCell' = true) (h63 : n + 1 ≤ maxLen) (hbytes : (n + 1) * bytes ≤ 140737488355328) :
    ∃ g' o' cap' cur' w', (Builtin.append_ #[t, t] ty #[.slice (some ⟨g, o, none⟩) n cap, .slice (some a) 1 c]).run P w = .ok (.slice (some ⟨g', o', none⟩) (n + 1) cap') w' ∧
      w'.heap[g']? = some (.cells cur' e (0, 0)) ∧ o' + cap' ≤ cur'.size ∧ n + 1 ≤ cap' ∧ (∀ j u, (xs ++ [x])[j]? = some u → cur'[o' + j]? = some u) ∧ w.grownBy w' (some g) ∧ (g' = g ∨ g' = w.heap.size) := by
  have hnews : ∀ j u, [x][j]? = some u → w.cell? (a.add j) = some u := by
    intro j u hj
    match j, hj with
    | 0, hj =>
      simp at hj
      subst hj
      have : a.add 0 = a := by simp [Addr.add]
      rw [this]; exact hx
  have hone : ∀ u ∈ [x], u.oneCell' = true := by intro u hu; simp at hu; subst hu; exact h1
  have hl1 : [x].length = 1 * i.size := by rw [hsize]; rfl
  by_cases hroom : n + 1 ≤ cap
  · have hr := run_append_room_at (P := P) w t ty e i ht hi g o n cap cur hg a 1 c [x] hl1 hnews hone hroom (by rw [hsize]; simp; omega)
    rw [hsize] at hr
    refine ⟨g, o, cap, _, _, hr, setRow_heap w g cur _ e _ hg, ?_, hroom, ?_, ⟨rfl, rfl, rfl, by simp, fun k _ hk => setRow_other w g k _ (fun e => hk (by rw [e]))⟩, .inl rfl⟩
    · simp only [List.size_toArray, List.length_append, List.length_take, List.length_drop, Array.length_toList, List.length_singleton]
      omega
    · intro j u hj
      have hjn : j < n + 1 := by
        have := (List.getElem?_eq_some_iff.1 hj).1
        rw [List.length_append, hxl] at this
        simpa using this
      rw [List.getElem?_toArray, List.append_assoc]
      by_cases hlt : j < n
      · rw [List.getElem?_append_left (by rw [List.length_take, Array.length_toList]; omega), List.getElem?_take, if_pos (by omega), Array.getElem?_toList]
        refine hxs j u ?_
        rw [List.getElem?_append_left (by omega)] at hj
        exact hj
      · obtain rfl : j = n := by omega
        rw [List.getElem?_append_right (by rw [hxl]; exact Nat.le_refl _), hxl, Nat.sub_self] at hj
        rw [List.getElem?_append_right (by rw [List.length_take, Array.length_toList]; omega), List.length_take, show o + j - min (o + j * 1) cur.toList.length = 0 by rw [Array.length_toList]; omega]
        exact hj
  · have holds : ∀ j u, xs[j]? = some u → w.cell? ((⟨g, o, none⟩ : Addr).add j) = some u := by
      intro j u hj
      rw [addr_add_at]
      simp [World.cell?, hg, hxs j u hj]
    have hr := run_append_grow (P := P) w t ty e i z ht hi hz ⟨g, o, none⟩ n cap xs (by rw [hsize, hxl, Nat.mul_one]) holds a 1 c [x] hl1 hnews (by omega) (by simp only [maxLen] at h63; omega) (growslice_fits (by omega) (by rw [hby]; exact hbytes))
    have hge := grownCap_ge w (n + 1) cap e
    refine ⟨_, 0, _, _, _, hr, heap_alloc_new w.drew _, ?_, hge, ?_, ⟨rfl, rfl, rfl, by simp, fun k hk _ => (by first | exact heap_alloc_old w.drew _ k hk | exact heap_alloc_old w.drew _ hk)⟩, .inr rfl⟩
    · simp [size_zeroCells, hzs, hxl]
      omega
    · intro j u hj
      have hjl := (List.getElem?_eq_some_iff.1 hj).1
      rw [Nat.zero_add]
      simp only [List.append_toArray]
      rw [Array.getElem?_append_left (by simpa using hjl), List.getElem?_toArray]
      exact hj
end
end
section
open Go.RowKit Go.Deep Go.Maps Go.WideMaps

def sliceEl : Value → Option (DataW Unit × List MemPlace)
  | .slice (some ⟨b, o, none⟩) n c => some (.agg [.lit (.int .i64 b), .lit (.int .i64 o), .lit (.int .i64 n), .lit (.int .i64 c)], [])
  | .slice none 0 0 => some (.nil, [])
  | _ => none
theorem sliceEl_inj {v u : Value} {d : DataW Unit} {p q : List MemPlace} (h : sliceEl v = some (d, p)) (h' : sliceEl u = some (d, q)) : v = u := by
  unfold sliceEl at h h'
  split at h <;> split at h'
  · simp only [Option.some.injEq, Prod.mk.injEq] at h h'
    rw [← h.1] at h'
    simp only [DataW.agg.injEq, List.cons.injEq, DataW.lit.injEq, Lit.int.injEq, true_and, and_true] at h'
    obtain ⟨⟨h1, h2, h3, h4⟩, _⟩ := h'
    have e1 := Int.ofNat.inj h1; have e2 := Int.ofNat.inj h2; have e3 := Int.ofNat.inj h3; have e4 := Int.ofNat.inj h4
    subst e1 e2 e3 e4
    rfl
  · simp only [Option.some.injEq, Prod.mk.injEq] at h h'
    rw [← h.1] at h'
    exact absurd h'.1 (by simp)
  · cases h'
  · simp only [Option.some.injEq, Prod.mk.injEq] at h h'
    rw [← h.1] at h'
    exact absurd h'.1 (by simp)
  · rfl
  · cases h'
  · cases h
  · cases h
  · cases h
theorem laid_is : laidOutB Try.prog = true := by kernel_rfl
theorem parcel_keyed : Keyed Try.prog 47 := Keyed.of_law (deep_law_laid laid_is (m := 9) (by decide) (of_decide_eq_true (by kernel_rfl)) (by kernel_rfl) (by kernel_rfl))
def keyR (f t : Int) (s : ByteArray) : Value := .agg #[.int .i64 f, .int .i64 t, .string s]
theorem key_of {f t : Int} {s : ByteArray} (hf : (Lit.int .i64 f).wf = true) (ht : (Lit.int .i64 t).wf = true) (hs : s.size ≤ maxLen) : ∃ kl, keyOf Try.prog 47 (keyR f t s) = some kl := by
  refine ⟨.string (keyBytes [.int .i64 f, .int .i64 t, .string s.data.toList]), ?_⟩
  have hd : ∃ d, Try.prog.types.size + 1 = d + 3 := ⟨Try.prog.types.size - 2, by have : 2 ≤ Try.prog.types.size := of_decide_eq_true (by kernel_rfl); omega⟩
  obtain ⟨d, hd⟩ := hd
  have hkt : Try.prog.keyType 47 = true := by kernel_rfl
  have hfm : Value.formed Try.prog 47 (.agg #[.int .i64 f, .int .i64 t, .string s]) = true := by kernel_rfl
  have c1 : Try.prog.cellsOf 47 = 3 := by kernel_rfl
  have c2 : Try.prog.cellsOf 43 = 2 := by kernel_rfl
  have c3 : Try.prog.cellsOf 3 = 1 := by kernel_rfl
  have c4 : Try.prog.cellsOf 9 = 1 := by kernel_rfl
  unfold keyOf keyR
  rw [Try.underlying47]
  simp only [hkt, hfm, hd, Bool.and_self, if_true]
  simp [Program.keyLits, Value.cells, Try.underlying47, Try.underlying43, Try.underlying3, Try.underlying9, c1, c2, c3, c4, hf, ht, hs]
  rw [if_pos (by decide)]
  simp
/-- What waits: block m is a map whose look-up at a key is F of it. -/
def WaitIs (m n : Nat) (F : Value → Value) (w : World) : Prop :=
  ∃ D : DataW Unit, IsMap D ∧ w.ownsMap Try.prog 47 sliceEl m n D ∧ ∀ key kl, keyOf Try.prog 47 key = some kl → ∃ ps, sliceEl (F key) = some (D.atKey kl .nil, ps)
theorem WaitIs.only {S : List Nat} {m n : Nat} {F : Value → Value} {w w' : World} (h : WaitIs m n F w) (ho : Only S w w') (hm : m ∉ S) : WaitIs m n F w' := by
  obtain ⟨D, hD, h, hF⟩ := h
  have hlt := World.ownsMap.lt h
  obtain ⟨es, clock, hb, F', hs, hD'⟩ := h
  exact ⟨D, hD, ⟨es, clock, (ho.block m hlt hm).trans hb, F', hs, hD'⟩, hF⟩
theorem WaitIs.made (w : World) : WaitIs w.heap.size 0 (fun _ => .slice none 0 0) (w.alloc (.map #[] 0)) :=
  ⟨.map [], isMap_empty, World.ownsMap_made _ _ _ _, fun _ _ _ => ⟨[], rfl⟩⟩
theorem WaitIs.lt {m n : Nat} {F : Value → Value} {w : World} (h : WaitIs m n F w) : m < w.heap.size := by
  obtain ⟨D, _, h, _⟩ := h
  exact World.ownsMap.lt h
theorem WaitIs.look {m n : Nat} {F : Value → Value} {w : World} (h : WaitIs m n F w) {f t : Int} {s : ByteArray} (hf : (Lit.int .i64 f).wf = true) (ht : (Lit.int .i64 t).wf = true) (hs : s.size ≤ maxLen) :
    (Instr.lookup 41 (.map (some m)) (.agg #[.int .i64 f, .int .i64 t, .string s]) false).run Try.prog w = .ok (F (keyR f t s)) w := by
  obtain ⟨D, _, h, hF⟩ := h
  obtain ⟨kl, hkl⟩ := key_of hf ht hs
  obtain ⟨v, ps, hrun, hv⟩ := World.ownsMap.lookup h parcel_keyed Try.underlying41 (z := .slice none 0 0) (by kernel_rfl) (zd := .nil) (zp := []) rfl hkl
  obtain ⟨ps2, hv2⟩ := hF _ _ hkl
  rw [show F (keyR f t s) = v from sliceEl_inj hv2 hv]
  exact hrun
theorem wpList_wait_look {m n : Nat} {F : Value → Value} (w : World) {ops : Array Oper} {rest : List Oper} {o : Oper} {a : Act} {Q : Exit → Act → World → Prop}
    (hg : o.guard = none) (mo x : Operand) (hop : o.op = Op.lookup 41 mo x false) {f t : Int} {s : ByteArray} (hm : a.eval mo = .map (some m)) (hx : a.eval x = .agg #[.int .i64 f, .int .i64 t, .string s]) (h : WaitIs m n F w)
    (hf : (Lit.int .i64 f).wf = true) (ht : (Lit.int .i64 t).wf = true) (hs : s.size ≤ maxLen) (hK : wpList Try.prog ops Q rest (a.put o.dst (F (keyR f t s))) w) : wpList Try.prog ops Q (o :: rest) a w := by
  refine wpList_plain hg fun K' hK' => ?_
  unfold Oper.wp
  simp [execOp, hop, hm, hx, h.look hf ht hs, Result.andThen]
  exact hK' _ _ hK
/-- The slice v, of the call's own, reads as xs; it lies somewhere in its block. -/
def RowAt (w : World) (base : Nat) (v : Value) (xs : List Nat) : Prop :=
  (v = .slice none 0 0 ∧ xs = []) ∨ ∃ g o cap cur, v = .slice (some ⟨g, o, none⟩) xs.length cap ∧ base ≤ g ∧ w.heap[g]? = some (.cells cur 3 (0, 0)) ∧ o + cap ≤ cur.size ∧ xs.length ≤ cap ∧ ∀ (j x : Nat), xs[j]? = some x → cur[o + j]? = some (.int .i64 x)
theorem RowAt.only {S : List Nat} {w w' : World} {base : Nat} {v : Value} {xs : List Nat} (h : RowAt w base v xs) (ho : Only S w w') (hS : ∀ g, v.ownBlock = some g → g ∉ S) : RowAt w' base v xs := by
  rcases h with h | ⟨g, o, cap, cur, rfl, hb, hg, h⟩
  · exact .inl h
  · refine .inr ⟨g, o, cap, cur, rfl, hb, ?_, h⟩
    have hlt : g < w.heap.size := by
      rcases Nat.lt_or_ge g w.heap.size with hl | hl
      · exact hl
      · rw [Array.getElem?_eq_none hl] at hg; cases hg
    exact (ho.block g hlt (hS g rfl)).trans hg
end
section
open Go.RowKit

/-- The partners, in the end. -/
def matchM (l : List Rc) : List Int := matchN l l.length
theorem matchM_len (l : List Rc) : (matchM l).length = l.length := (inv_all l l.length (Nat.le_refl _)).1
def nowAt (l : List Rc) (v : Int) : Int := match l[v.toNat]? with | some y => y.n | none => 0
/-- The places of a kind without partner, among the first i. -/
def aloneN (l : List Rc) (kind : Int) : Nat → List Nat
  | 0 => []
  | i + 1 => if (matchM l).getD i 0 < 0 ∧ (match l[i]? with | some y => y.k | none => 0) = kind then aloneN l kind i ++ [i] else aloneN l kind i
def slowN (l : List Rc) : Nat → Int × Bool
  | 0 => (0, false)
  | i + 1 => match l[i]? with
    | some y => if 0 ≤ (matchM l).getD i 0 ∧ y.k = 2 then (if (slowN l i).2 = false ∨ (slowN l i).1 < y.n - nowAt l ((matchM l).getD i 0) then (y.n - nowAt l ((matchM l).getD i 0), true) else slowN l i) else slowN l i
    | none => slowN l i
def flowN (l : List Rc) (f t : Int) : Nat → Nat × Nat × Nat
  | 0 => (0, 0, 0)
  | i + 1 => match l[i]? with
    | some y => if y.k = 1 ∧ y.a = f ∧ y.p = t then ((flowN l f t i).1 + 1, (flowN l f t i).2.1, (flowN l f t i).2.2) else if y.k = 2 ∧ y.a = t ∧ y.p = f then ((flowN l f t i).1, (flowN l f t i).2.1 + 1, (flowN l f t i).2.2 + y.b.length) else flowN l f t i
    | none => flowN l f t i
/-- Partners are each other's. -/
theorem match_back (l : List Rc) {j : Nat} {v : Int} (h : (matchM l)[j]? = some v) (h0 : 0 ≤ v) : ∃ k : Nat, v = k ∧ k < l.length ∧ (matchM l)[k]? = some (j : Int) := by
  rcases (inv_all l l.length (Nat.le_refl _)).2.2 j v h with h | ⟨k, h1, h2, _, h3⟩
  · omega
  · exact ⟨k, h1, h2, h3⟩
end
section
open Go.RowKit Go.Deep

def RetB (r : Bool) (w : World) (e : Ending) (w' : World) : Prop := e = .returned (.bool r) ∧ Only [] w w'
theorem retb {r s : Bool} {w w' : World} (h : r = s) (ho : Only [] w w') : RetB r w (.returned (.bool s)) w' := by subst h; exact ⟨rfl, ho⟩
theorem results_cell_two {P : Program} {fn : Func} {p q : Tmp} {ty : TypeId} (h : fn.results = #[.cell p ty, .tmp q]) (tmps : Array Value) (w : World) (g : Nat) (t : TypeId) (cs : Array Value) (fr : Nat × Nat) (d : TypeDesc)
    (hp : tmps.getD p undef = .pointer (some ⟨g, 0, none⟩)) (hg : w.heap[g]? = some (.cells cs t fr))
    (hu : P.underlying ty = some d) (hd : (match d with | .struct _ | .array _ _ => true | _ => false) = true) (hi : (P.info? ty).map (·.size) = some cs.size) :
    (results fn tmps).run P w = .ok (.tuple #[.agg cs, tmps.getD q undef]) w := by
  have hp' : tmps[p]?.getD undef = .pointer (some ⟨g, 0, none⟩) := by simpa using hp
  simp [results, h, hp', asAddr, run_loadVar_row w g t ty cs fr d hg hu hd hi]
end
section
open Go.RowKit Go.Deep

def flowV (y : Rc) : Int × Int × Bool := if y.k = 1 then (y.a, y.p, true) else if y.k = 2 then (y.p, y.a, true) else (0, 0, false)
def FlowPost (y : Rc) (w : World) (e : Ending) (w' : World) : Prop := e = .returned (.tuple #[.agg #[.int .i64 (flowV y).1, .int .i64 (flowV y).2.1], .bool (flowV y).2.2]) ∧ Only [] w w'
theorem flowpost {y : Rc} {a b : Int} {c : Bool} {w w' : World} (h : flowV y = (a, b, c)) (ho : Only [] w w') : FlowPost y w (.returned (.tuple #[.agg #[.int .i64 a, .int .i64 b], .bool c])) w' := by unfold FlowPost; rw [h]; exact ⟨rfl, ho⟩
set_option maxRecDepth 100000 in
set_option maxHeartbeats 6400000 in
theorem flowOf_any (w : World) (k a p n : Int) (b : List UInt8) (v : Value) : Calls Try.prog 15 #[.agg #[.int .i64 k, .int .i64 a, .int .i64 p, v, .int .i64 n]] w (FlowPost ⟨k, a, p, b, n⟩ w) := by
  have HR := hide ((Blk.new w 26 #[.int .i64 k, .int .i64 a, .int .i64 p, v, .int .i64 n]).alloc (.cells #[.int .i64 0, .int .i64 0] 43))
  have HB := hide (Blk.new (w.alloc (.cells #[.int .i64 k, .int .i64 a, .int .i64 p, v, .int .i64 n] 26)) 43 #[.int .i64 0, .int .i64 0])
  rw [World.size_alloc] at HB
  have HO := hide (((Only.refl [] w).alloc (.cells #[.int .i64 k, .int .i64 a, .int .i64 p, v, .int .i64 n] 26)).alloc (.cells #[.int .i64 0, .int .i64 0] 43))
  rcases Decidable.em (k = 1) with hk | hk
  · have hf : flowV ⟨k, a, p, b, n⟩ = (a, p, true) := if_pos hk
    have t1 : (k == 1) = true := by rw [beq_iff_eq]; exact hk
    have HF := hide hf
    clear hk hf
    go_enter Try.func15, Try.ntmps15
    go_upto_region 1 with fail
    generalize ((w.alloc (.cells #[.int .i64 k, .int .i64 a, .int .i64 p, v, .int .i64 n] 26)).alloc (.cells #[.int .i64 0, .int .i64 0] 43)) = v0 at *
    have r0 := HR.out.cell 0; have r1 := HR.out.cell 1; have r2 := HR.out.cell 2; simp at r0 r1 r2
    have rf := HB.out.frozen; have b0 := HB.out.cell 0; have b1 := HB.out.cell 1; simp at b0 b1
    go_wp2_with fail
    refine bodyPost_ret (results_cell_two rfl _ _ (w.heap.size + 1) 43 _ (0, 0) _ rfl ((HB.out.set_ 0 _).set_ 1 _) Try.underlying43 rfl (by kernel_rfl)) rfl ?_
    exact flowpost HF.out ((HO.out.setCell (.inr (by simp)) _).setCell (.inr (by simp)) _)
  · have t1 : (k == 1) = false := by rw [beq_eq_false_iff_ne]; exact hk
    rcases Decidable.em (k = 2) with hk2 | hk2
    · have hf : flowV ⟨k, a, p, b, n⟩ = (p, a, true) := by unfold flowV; rw [if_neg hk, if_pos hk2]
      have t2 : (k == 2) = true := by rw [beq_iff_eq]; exact hk2
      have HF := hide hf
      clear hk hk2 hf
      go_enter Try.func15, Try.ntmps15
      go_upto_region 1 with fail
      generalize ((w.alloc (.cells #[.int .i64 k, .int .i64 a, .int .i64 p, v, .int .i64 n] 26)).alloc (.cells #[.int .i64 0, .int .i64 0] 43)) = v0 at *
      have r0 := HR.out.cell 0; have r1 := HR.out.cell 1; have r2 := HR.out.cell 2; simp at r0 r1 r2
      have rf := HB.out.frozen; have b0 := HB.out.cell 0; have b1 := HB.out.cell 1; simp at b0 b1
      go_wp2_with fail
      refine bodyPost_ret (results_cell_two rfl _ _ (w.heap.size + 1) 43 _ (0, 0) _ rfl ((HB.out.set_ 0 _).set_ 1 _) Try.underlying43 rfl (by kernel_rfl)) rfl ?_
      exact flowpost HF.out ((HO.out.setCell (.inr (by simp)) _).setCell (.inr (by simp)) _)
    · have hf : flowV ⟨k, a, p, b, n⟩ = (0, 0, false) := by unfold flowV; rw [if_neg hk, if_neg hk2]
      have t2 : (k == 2) = false := by rw [beq_eq_false_iff_ne]; exact hk2
      have HF := hide hf
      clear hk hk2 hf
      go_enter Try.func15, Try.ntmps15
      go_upto_region 1 with fail
      generalize ((w.alloc (.cells #[.int .i64 k, .int .i64 a, .int .i64 p, v, .int .i64 n] 26)).alloc (.cells #[.int .i64 0, .int .i64 0] 43)) = v0 at *
      have r0 := HR.out.cell 0; have r1 := HR.out.cell 1; have r2 := HR.out.cell 2; simp at r0 r1 r2
      have rf := HB.out.frozen; have b0 := HB.out.cell 0; have b1 := HB.out.cell 1; simp at b0 b1
      go_wp2_with fail
      refine bodyPost_ret (results_cell_two rfl _ _ (w.heap.size + 1) 43 _ (0, 0) _ rfl ((HB.out.set_ 0 _).set_ 1 _) Try.underlying43 rfl (by kernel_rfl)) rfl ?_
      exact flowpost HF.out ((HO.out.setCell (.inr (by simp)) _).setCell (.inr (by simp)) _)
end
section
open Go.RowKit Go.Deep Go.Maps Go.WideMaps

theorem sliceEl_row {w : World} {base : Nat} {v : Value} {xs : List Nat} (h : RowAt w base v xs) : ∃ d, sliceEl v = some (d, []) := by
  rcases h with ⟨rfl, _⟩ | ⟨g, o, cap, cur, rfl, _⟩
  · exact ⟨_, rfl⟩
  · exact ⟨_, rfl⟩
theorem RowAt.block_lt {w : World} {base : Nat} {v : Value} {xs : List Nat} (h : RowAt w base v xs) {g : Nat} (hg : v.ownBlock = some g) : base ≤ g ∧ g < w.heap.size := by
  rcases h with ⟨rfl, _⟩ | ⟨g', o, cap, cur, rfl, hb, hh, _⟩
  · cases hg
  · obtain rfl : g' = g := Option.some.inj hg
    refine ⟨hb, ?_⟩
    rcases Nat.lt_or_ge g' w.heap.size with hl | hl
    · exact hl
    · rw [Array.getElem?_eq_none hl] at hh; cases hh
theorem info_int : ∃ i : TypeInfo, Try.prog.info? 3 = some i ∧ i.zero = some (.int .i64 0) ∧ i.size = 1 ∧ i.bytes = 8 :=
  info_parts (show (Try.prog.info? 3).map (fun i => (i.zero, i.size, i.bytes)) = some (some (.int .i64 0), 1, 8) by kernel_rfl)
set_option maxRecDepth 100000 in
theorem run_row_append (w : World) (base : Nat) (v : Value) (xs : List Nat) (h : RowAt w base v xs) (hl : xs.length ≤ 100000) (hbase : base ≤ w.heap.size) (ad : Addr) (c x : Nat) (hx : w.cell? ad = some (.int .i64 x)) (ty : TypeId) :
    ∃ v' w', (Builtin.append_ #[29, 29] ty #[v, .slice (some ad) 1 c]).run Try.prog w = .ok v' w' ∧ RowAt w' base v' (xs ++ [x]) ∧ w.grownBy w' v.ownBlock ∧ (v'.ownBlock = v.ownBlock ∨ v'.ownBlock = some w.heap.size) := by
  obtain ⟨i, hi, hz, hs1, hby⟩ := info_int
  rcases h with ⟨rfl, rfl⟩ | ⟨g, o, cap, cur, rfl, hb, hg, hcap, hlc, hxs⟩
  · have hnews : ∀ j u, [Value.int .i64 x][j]? = some u → w.cell? (ad.add j) = some u := by
      intro j u hj
      match j, hj with
      | 0, hj =>
        simp at hj
        subst hj
        have : ad.add 0 = ad := by simp [Addr.add]
        rw [this]; exact hx
    obtain ⟨g, cap, w', hr, ⟨_, h2⟩, h3, h4, _⟩ := run_append_lies (P := Try.prog) w 29 ty base 3 i (.int .i64 0) 1 8 Try.underlying29 hi hz hs1 hby rfl (by omega) (.slice none 0 0) 0 [] (World.ownsRow_nil _ _ _ _) ad 1 c [.int .i64 x] rfl hnews (by simp [Value.oneCell']) (by omega) (by unfold maxLen; omega) (by omega) hbase w.heap.size rfl
    refine ⟨_, w', hr, .inr ?_, h3, ?_⟩
    · rcases h2 with ⟨h2, _⟩ | ⟨g', cap', cur', he, hb', hg', hnc, hcm, hcs, ht⟩
      · cases h2
      · injection he with e1 e2 e3
        injection e1 with e1
        injection e1 with e1 e4
        subst e1 e3
        refine ⟨g, 0, cap, cur', rfl, hb', hg', by omega, hnc, fun j y hj => ?_⟩
        match j, hj with
        | 0, hj =>
          simp at hj
          subst hj
          have h0 := congrArg (fun l => l[0]?) ht
          simp at h0
          simpa using h0
    · rcases h4 with h4 | h4
      · cases h4
      · right; simp [Value.ownBlock, h4]
  · obtain ⟨g', o', cap', cur', w', hr, h1, h2, h3, h4, h5, h6⟩ := run_append_int_at (P := Try.prog) w 29 ty 3 i (.int .i64 0) 8 Try.underlying29 hi hz hs1 hby rfl g o xs.length cap cur (xs.map fun x : Nat => Value.int .i64 x) (by simp) hg hcap
      (fun j u hj => by
        rw [List.getElem?_map] at hj
        cases hj' : xs[j]? with
        | none => rw [hj'] at hj; cases hj
        | some y => rw [hj'] at hj; injection hj with hj; rw [← hj]; exact hxs j y hj') hlc ad c (.int .i64 x) hx (by simp [Value.oneCell']) (by unfold maxLen; omega) (by omega)
    refine ⟨_, w', hr, .inr ⟨g', o', cap', cur', by rw [List.length_append]; rfl, ?_, h1, h2, by rw [List.length_append]; exact h3, fun j y hj => ?_⟩, h5, ?_⟩
    · rcases h6 with rfl | rfl
      · exact hb
      · exact hbase
    · refine h4 j _ ?_
      by_cases hlt : j < xs.length
      · rw [List.getElem?_append_left hlt] at hj
        rw [List.getElem?_append_left (by simpa using hlt), List.getElem?_map, hj]; rfl
      · rw [List.getElem?_append_right (by omega)] at hj
        have : j - xs.length = 0 := by
          have := (List.getElem?_eq_some_iff.1 hj).1
          simp at this; omega
        rw [this] at hj
        simp at hj
        subst hj
        rw [List.getElem?_append_right (by simp; omega)]
        simp [this]
    · rcases h6 with rfl | rfl
      · exact .inl rfl
      · exact .inr rfl
theorem wp_row_append {w : World} {o : Oper} {a : Act} {K : Act → World → Prop} {Q : Exit → Act → World → Prop} (s x : Operand)
    (ho : o.op = .call { callee := .builtin .append, args := #[s, x], argTypes := #[29, 29] }) (base : Nat) (v : Value) (xs : List Nat) (hs : a.eval s = v) (h : RowAt w base v xs) (hl : xs.length ≤ 100000) (hbase : base ≤ w.heap.size)
    (ad : Addr) (c y : Nat) (hx : a.eval x = .slice (some ad) 1 c) (hy : w.cell? ad = some (.int .i64 y))
    (hK : ∀ v' w', RowAt w' base v' (xs ++ [y]) → w.grownBy w' v.ownBlock → (v'.ownBlock = v.ownBlock ∨ v'.ownBlock = some w.heap.size) → K (a.put o.dst v') w') : o.wp Try.prog a w K Q := by
  obtain ⟨v', w', hr, h1, h2, h3⟩ := run_row_append w base v xs h hl hbase ad c y hy o.type
  unfold Oper.wp execOp
  simp only [ho, resolve, invoke, builtin, Sem.run_bind, Sem.run_pure, Result.andThen_ok, List.map_toArray, List.map_cons, List.map_nil, hs, hx, hr]
  exact hK v' w' h1 h2 h3
theorem wp_wait_upd {m n : Nat} {F : Value → Value} {w : World} {o : Oper} {a : Act} {K : Act → World → Prop} {Q : Exit → Act → World → Prop}
    (mo x v : Operand) (hop : o.op = Op.mapUpdate 41 mo x v) {f t : Int} {s : ByteArray} (hm : a.eval mo = .map (some m)) (hx : a.eval x = .agg #[.int .i64 f, .int .i64 t, .string s]) (h : WaitIs m n F w)
    (hf : (Lit.int .i64 f).wf = true) (ht : (Lit.int .i64 t).wf = true) (hs : s.size ≤ maxLen) (hn : n < maxLen) (val : Value) (hv : a.eval v = val) {d : DataW Unit} (hval : sliceEl val = some (d, []))
    (hK : ∀ w' F', WaitIs m (n + 1) F' w' → F' (keyR f t s) = val → (∀ k, k ≠ keyR f t s → F' k = F k) → w.grownBy w' (some m) → K (a.put o.dst undef) w') :
    o.wp Try.prog a w K Q := by
  obtain ⟨D, hD, h, hF⟩ := h
  obtain ⟨kl, hkl⟩ := key_of hf ht hs
  obtain ⟨w', hrun, h', hgr⟩ := World.ownsMap.update h parcel_keyed Try.underlying41 hn hkl hval
  unfold keyR at hrun
  unfold Oper.wp
  simp only [execOp, hop, hm, hx, hv, hrun, Sem.run_bind, Result.andThen_ok]
  classical
  refine hK w' (fun k => if k = keyR f t s then val else F k) ⟨D.put kl d, hD.put kl d, h', fun key kl' hk => ?_⟩ (if_pos rfl) (fun k hk => if_neg hk) hgr
  by_cases he : key = keyR f t s
  · subst he
    rw [hkl] at hk
    injection hk with hk
    subst hk
    rw [atKey_put_same hD (parcel_keyed.key hkl)]
    exact ⟨[], by show sliceEl (if keyR f t s = keyR f t s then val else _) = _; rw [if_pos rfl]; exact hval⟩
  · rw [atKey_put_other (fun e => he (parcel_keyed.inj (by rw [hk, e]) hkl))]
    obtain ⟨ps, hps⟩ := hF key kl' hk
    exact ⟨ps, by simp only [if_neg he]; exact hps⟩
end
end Go.Proofs.Ytahocmccaljplaa

/-
  Walks and plain words (texts Rfa, Open, Copy, Sls, Tm1, Tm2, Tm3, Num1, Num2, Num3). No condition beyond those that each theorem states.
-/
import Derived.Test.YthecnaclfhfilaaDoorChecked
import Derived.ProofKit
import Derived.OpenShut
import Derived.Deep.Slices
import Derived.Deep.Fields
import Derived.ChangeSame
import Derived.Laws.CopyOwn
import Derived.Deep.LoopGhost
import Derived.Laws.RangeAny
import Derived.ScopeJumps
import Derived.Test.YthecnaclfhfilaaDoorA01
namespace Go.Proofs.YthecnaclfhfilaaDoor
section
open Go.RowKit Go.Shelf
attribute [local go_sem] Oper.semAt_some

theorem slice_two (P : Program) (t e : TypeId) (A : Addr) (n cap l h : Nat) (i j : Int) (hi : i = l) (hj : j = h) (hu : P.underlying t = some (.slice e)) {ti : TypeInfo} (hsz : P.info? e = some ti) (h1 : ti.size = 1) (hl : l ≤ h) (hh : h ≤ cap) (hc : l < cap) (W : World) :
    (Instr.sliceAt t (.slice (some A) n cap) (some (.int .i64 i)) (some (.int .i64 j)) none).run P W = .ok (.slice (some (A.add l)) (h - l) (cap - l)) W := by
  subst hi hj
  simp [Instr.sliceAt, Instr.slice, Instr.sliceBounds, Instr.sliceBound, run_underlying hu, go_sem, asIntOf, sizeOf, typeInfo, hsz, h1]
  rw [if_pos hh, if_pos hl, if_neg (by omega)]
theorem info_u8a : (Tryd.prog.info? 5).map (fun i => (i.zero, i.size, i.bytes)) = some (some (.int .u8 0), 1, 1) := by kernel_rfl
def twoE (g o cap k : Nat) : Array Value := #[.int .i64 (2 * (k : Int)), .slice (some ⟨g, o + 2 * k, none⟩) 2 (cap - 2 * k)]
/-- What the iterator reads: its box, and the bytes' block. -/
def keepB (b : Nat) (W W' : World) : Prop := ∀ o, W.heap[b]? = some o → W'.heap[b]? = some o
def rangeP (pre : List Nat) : Prop := ∃ k, k ≤ 8 ∧ pre = List.range k
set_option maxRecDepth 100000 in
set_option maxHeartbeats 1600000 in
theorem pairs_seq (n b g o cap : Nat) (hc : 16 ≤ cap) (hm : cap ≤ maxLen) : SeqP n Tryd.prog 45 #[.pointer (some ⟨b, 0, none⟩)] (twoE g o cap) (keepB b) (fun xs => xs = List.range 8) rangeP []
    (fun W => Blk W b 23 #[.slice (some ⟨g, o, none⟩) 16 cap]) := by
  intro l J Jx W hJ hJx hY h0 hA
  obtain ⟨i0, hi, hz0, hz1, hz2⟩ := info_parts info_u8a
  have HY := hide hY
  have HA := hide hA
  clear hY hA
  unfold maxLen at hm
  refine callsIn_of_wp Tryd.func45 rfl trivial ?_ rfl
  simp only [Tryd.ntmps45, List.size_toArray, List.length_cons, List.length_nil, Nat.reduceAdd, Nat.reduceSub, Array.replicate_succ, Array.replicate_zero, List.push_toArray, List.append_toArray, List.nil_append, List.cons_append]
  gi_wp2
  gi_loopw [3] (fun i wr => ∃ k : Nat, k ≤ 8 ∧ i = .int .i64 (2 * (k : Int)) ∧ J (List.range k) wr ∧ Hid (Blk wr b 23 #[.slice (some ⟨g, o, none⟩) 16 cap])) (fun i _ => 16 - (intOf i).toNat)
  case atStart => exact ⟨0, by omega, rfl, h0, HA⟩
  case round =>
    obtain ⟨k, hk, rfl, hj, hb⟩ := hrel
    have k0 := hb.out.cell 0
    simp at k0
    by_cases h8 : k < 8
    · have h8' : 2 * (k : Int) + 1 < 16 := by omega
      have hsl := fun W => slice_two Tryd.prog 23 5 ⟨g, o, none⟩ 16 cap (2 * k) (2 * k + 2) (2 * (k : Int)) (2 * (k : Int) + 2) (by omega) (by omega) Tryd.underlying23 hi hz1 (by omega) (by omega) (by omega) W
      rw [add_mk, show 2 * k + 2 - 2 * k = 2 by omega] at hsl
      obtain ⟨fn, tmps, assign, body, hy, hR⟩ := HY.out (List.range k) k wr hj ⟨k + 1, by omega, by rw [List.range_succ]⟩
      unfold twoE at hy
      gi_wp2
      refine ⟨(fun h => absurd h (by decide)), hR.mono ?_⟩
      rintro e W3 (⟨rfl, hJ3, hk3⟩ | ⟨rfl, hJx3⟩)
      · have hb3 := hide (show Blk W3 b 23 #[.slice (some ⟨g, o, none⟩) 16 cap] from hk3 _ hb.out)
        gi_wp2
        go_roundw
        case rel => exact ⟨k + 1, by omega, by go_num, by rw [List.range_succ]; exact hJ3, hb3⟩
        case measure => simp [intOf]; omega
      · gi_wp2
        refine bodyPost_ret (results_none rfl _ _ _) rfl ?_
        exact ⟨⟨_, rfl⟩, .inr ⟨List.range k ++ [k], ⟨k + 1, by omega, by rw [List.range_succ]⟩, hJx3⟩⟩
    · have h8' : ¬ 2 * (k : Int) + 1 < 16 := by omega
      obtain rfl : k = 8 := by omega
      gi_wp2
      go_end0
      rw [show List.range 8 = [0, 1, 2, 3, 4, 5, 6, 7] from by decide] at hj
      exact ⟨⟨_, rfl⟩, .inl hj⟩
end
section
open Go.RowKit Go.ChangeShapes Go.WideShapes Go.ChangeAt Go.Deep

section
variable {H : Type} {enc : TypeId × Value → H} {P : Program} {w : World} {base : Nat} {spare : Nat → Bool} {held : Bool}
end

section
variable {H : Type} {enc : TypeId × Value → H} {P : Program} {w : World} {base : Nat} {spare : Nat → Bool} {held : Bool}
/-- A slice of integers that came in reads as a list. -/
theorem rd_of_trod {t e : TypeId} {k : IntKind} {A : Option Addr} {len cap : Nat} {d : DataW H} {p : List MemPlace} (ht : P.underlying t = some (.slice e)) (he : P.underlying e = some (.int k)) (hC : P.cellsOf e = 1)
    (h : DataW.Trod enc P w base spare held t (.slice A len cap) d p) : ∃ zs : List Int, Rd w [] (.slice A len cap) (ints k zs) ∧ ∀ n ∈ zs, (Lit.int k n).wf = true := by
  obtain ⟨fuel, hf⟩ := h
  rcases open_ints ht he hC hf with ⟨hcs, _⟩ | ⟨x, l, c, zs, hcs, _, hl, hm, hz, _, hcell, hwz⟩
  · simp [Value.cells] at hcs
    obtain ⟨rfl, rfl, rfl⟩ := hcs
    exact ⟨[], Rd.nil w [], by simp⟩
  · simp [Value.cells] at hcs
    obtain ⟨rfl, rfl, rfl⟩ := hcs
    have hlz : len ≤ zs.length := by
      rw [hz]
      split <;> omega
    refine ⟨zs.take len, ⟨some x, cap, by rw [ints_length, List.length_take, Nat.min_eq_left hlz], by rw [ints_length, List.length_take]; omega, hm, ?_⟩, fun n hn => hwz n (List.mem_of_mem_take hn)⟩
    by_cases h0 : len = 0
    · subst h0; exact .inl rfl
    · have hc0 := hcell 0 (by omega)
      have hsp : x.spot = none := by
        have := World.cell?_spot hc0
        simpa [Addr.add] using this
      obtain ⟨g, o, sp⟩ := x
      simp only at hsp
      subst hsp
      refine .inr ⟨g, o, rfl, by simp, by have := World.block_lt_of_cell? w _ hc0; rwa [add_mk] at this, fun i y hy => ?_⟩
      simp only [ints, List.getElem?_map, List.getElem?_take] at hy
      split at hy
      · have hi : i < zs.length := by omega
        rw [List.getElem?_eq_getElem hi] at hy
        simp only [Option.map_some, Option.some.injEq] at hy
        subst hy
        have := hcell i hi
        rw [add_mk] at this
        rw [this]
        simp [List.getD_eq_getElem?_getD, List.getElem?_eq_getElem hi]
      · simp at hy

end
end
section
open Go.RowKit

theorem madeCells_one (z : Value) (hz : z.cells = #[z]) (n : Nat) : madeCells z.cells n = (List.replicate n z).toArray := by
  rw [hz]
  apply Array.ext
  · simp [madeCells]
  · intro i h1 h2
    simp [madeCells, Nat.mod_one]

theorem run_make_row {P : Program} (w : World) (t e : TypeId) (i : TypeInfo) (z : Value) (ht : P.underlying t = some (.slice e)) (hi : P.info? e = some i) (hz : i.zero = some z) (hs : i.size = 1) (hc : z.cells = #[z])
    (kl kc : IntKind) (l c : Nat) (hlc : l ≤ c) (hbytes : i.bytes * c ≤ 281474976710656) (h63 : c ≤ 9223372036854775807) :
    (Instr.makeSlice t (.int kl (l : Int)) (.int kc (c : Int))).run P w = .ok (.slice (some ⟨w.heap.size, 0, none⟩) l c) (w.alloc (.cells (Array.replicate c z) e)) := by
  have hb' : (i.bytes : Int) * (c : Int) ≤ 281474976710656 := by
    have h : ((i.bytes * c : Nat) : Int) ≤ 281474976710656 := by omega
    rwa [Int.natCast_mul] at h
  have h := run_make (P := P) w t e i z ht hi hz kl kc l c (by omega) (by omega) hb' (by omega)
  rw [h, Int.toNat_natCast, Int.toNat_natCast, hs, Nat.mul_one, madeCells_one z hc, List.toArray_replicate]
end
section
open Go.RowKit Go.Deep

def RdS {α : Type} (k : Nat) (F : α → List Value) (w : World) (N : List Nat) (v : Value) (l : List α) : Prop :=
  ∃ (A : Option Addr) (cap : Nat), v = .slice A l.length cap ∧ l.length ≤ cap ∧ cap ≤ maxLen ∧
    (l = [] ∨ ∃ g o, A = some ⟨g, o, none⟩ ∧ g ∉ N ∧ g < w.heap.size ∧ ∀ i p, l[i]? = some p → ∀ j u, (F p)[j]? = some u → w.cell? ⟨g, o + (i * k + j), none⟩ = some u)

section
variable {α : Type} {k : Nat} {F : α → List Value} {w w' : World} {N S : List Nat} {v : Value} {l : List α}
theorem RdS.nil (w : World) (N : List Nat) : RdS k F w N (.slice none 0 0) [] := ⟨none, 0, rfl, Nat.le_refl _, Nat.zero_le _, .inl rfl⟩
theorem RdS.form (h : RdS k F w N v l) : ∃ A cap, v = .slice A l.length cap ∧ l.length ≤ cap ∧ cap ≤ maxLen := by
  obtain ⟨A, cap, hv, hc, hm, _⟩ := h
  exact ⟨A, cap, hv, hc, hm⟩
theorem RdS.only (h : RdS k F w N v l) (ho : Only S w w') (hs : ∀ x ∈ S, x ∈ N) : RdS k F w' N v l := by
  obtain ⟨A, cap, hv, hc, hm, h⟩ := h
  refine ⟨A, cap, hv, hc, hm, ?_⟩
  rcases h with h | ⟨g, o, hA, hg, hl, hcell⟩
  · exact .inl h
  · exact .inr ⟨g, o, hA, hg, Nat.lt_of_lt_of_le hl ho.size, fun i p hp j u hu => (cell_only ho hl (fun hh => hg (hs _ hh))).trans (hcell i p hp j u hu)⟩
theorem RdS.cell {g o n cap : Nat} (h : RdS k F w N (.slice (some ⟨g, o, none⟩) n cap) l) {i : Nat} {p : α} (hp : l[i]? = some p) {j : Nat} {u : Value} (hu : (F p)[j]? = some u) : w.cell? ⟨g, o + (i * k + j), none⟩ = some u := by
  obtain ⟨A', cap', hv, _, _, h⟩ := h
  injection hv with h1 h2 h3
  rcases h with h | ⟨g', o', hA, _, _, hc⟩
  · subst h; simp at hp
  · rw [← h1] at hA
    injection hA with hA
    injection hA with e1 e2
    subst e1 e2
    exact hc i p hp j u hu
end

theorem flat_get {α β : Type} (F : α → List β) (k : Nat) (hk : ∀ p, (F p).length = k) : ∀ (l : List α) (i : Nat) (p : α), l[i]? = some p → ∀ j, j < k → (l.flatMap F)[i * k + j]? = (F p)[j]?
  | [], i, p, h, _, _ => by simp at h
  | x :: r, 0, p, h, j, hj => by
    simp at h
    subst h
    rw [List.flatMap_cons, Nat.zero_mul, Nat.zero_add, List.getElem?_append_left (by rw [hk]; exact hj)]
  | x :: r, i + 1, p, h, j, hj => by
    rw [List.getElem?_cons_succ] at h
    rw [List.flatMap_cons, List.getElem?_append_right (by rw [hk, Nat.succ_mul]; omega), hk, show (i + 1) * k + j - k = i * k + j by rw [Nat.succ_mul]; omega]
    exact flat_get F k hk r i p h j hj
theorem flat_len {α β : Type} (F : α → List β) (k : Nat) (hk : ∀ p, (F p).length = k) (l : List α) : (l.flatMap F).length = l.length * k := by
  induction l with
  | nil => simp
  | cons x r ih => rw [List.flatMap_cons, List.length_append, ih, hk, List.length_cons, Nat.succ_mul, Nat.add_comm]

theorem RdS.of_own {α : Type} {k : Nat} {F : α → List Value} {w : World} {N : List Nat} {v : Value} {l : List α} {base e n : Nat} (hk : ∀ p, (F p).length = k) (hk0 : 0 < k) (h : w.ownsRow base e k v n (l.flatMap F)) (hN : ∀ x ∈ N, x < base) : RdS k F w N v l ∧ l.length = n := by
  obtain ⟨h1, h2⟩ := h
  rw [flat_len F k hk] at h1
  have hn : l.length = n := Nat.eq_of_mul_eq_mul_right hk0 h1
  refine ⟨?_, hn⟩
  rcases h2 with ⟨rfl, rfl⟩ | ⟨g, cap, cur, rfl, hg, hh, hnc, hm, hs, hx⟩
  · rw [List.length_eq_zero_iff] at hn
    subst hn
    exact RdS.nil w N
  · refine ⟨_, cap, by rw [hn], by omega, hm, .inr ⟨g, 0, rfl, fun hh => by have := hN g hh; omega, Blk.lt (t := e) (cs := cur) hh, fun i p hp j u hu => ?_⟩⟩
    have hj : j < k := by
      have := (List.getElem?_eq_some_iff.1 hu).1
      rwa [hk] at this
    have hget := flat_get F k hk l i p hp j hj
    rw [hu, ← hx, List.getElem?_take] at hget
    rw [Nat.zero_add, Blk.cell (t := e) (cs := cur) hh]
    split at hget
    · simpa using hget
    · cases hget
end
section
open Go.RowKit

def signV (r : Int) : Int := if 48 ≤ r ∧ r ≤ 57 then r - 48 else if 97 ≤ r ∧ r ≤ 102 then r - 87 else -1
set_option maxHeartbeats 1600000 in
theorem sign_any (r : Int) (w : World) : Calls Tryd.prog 40 #[.int .i32 r] w fun e w' => e = .returned (.int .i64 (signV r)) ∧ w = w' := by
  by_cases h1 : 48 ≤ r ∧ r ≤ 57
  · obtain ⟨h1, h2⟩ := h1
    have hv : signV r = r - 48 := by unfold signV; rw [if_pos ⟨h1, h2⟩]
    have HV := hide hv
    clear hv
    go_enter Tryd.func40, Tryd.ntmps40
    go_wp2
    all_goals
      go_ret
      exact ⟨(by rw [HV.out]; rfl), rfl⟩
  · by_cases h2 : 97 ≤ r ∧ r ≤ 102
    · obtain ⟨h2, h3⟩ := h2
      have hv : signV r = r - 97 + 10 := by unfold signV; rw [if_neg h1, if_pos ⟨h2, h3⟩]; omega
      have h4 : ¬ r ≤ 57 := by omega
      have h5 : 48 ≤ r := by omega
      have HV := hide hv
      clear hv h1
      go_enter Tryd.func40, Tryd.ntmps40
      go_wp2
      all_goals
        go_ret
        exact ⟨(by rw [HV.out]; rfl), rfl⟩
    · have hv : signV r = -1 := by unfold signV; rw [if_neg h1, if_neg h2]
      have HV := hide hv
      clear hv
      by_cases a : 48 ≤ r <;> by_cases b : r ≤ 57 <;> by_cases c : 97 ≤ r <;> by_cases d : r ≤ 102
      all_goals first
        | (exfalso; omega)
        | (clear h1 h2
           go_enter Tryd.func40, Tryd.ntmps40
           go_wp2
           all_goals
             go_ret
             exact ⟨(by rw [HV.out]; rfl), rfl⟩)
end
section
open Go.RowKit Go.Deep

theorem drop_at (s : ByteArray) (p : Nat) (h : p < s.size) : s.data.toList.drop p = s[p] :: s.data.toList.drop (p + 1) := by
  rw [List.drop_eq_getElem_cons (by simpa using h)]; rfl
end
section
open Go.RowKit Go.Deep

theorem byte_lt (c : UInt8) : c.toNat < 256 := c.toNat_lt
end
section
open Go.RowKit Go.Deep

def digB (c : UInt8) : Bool := decide (48 ≤ c.toNat) && decide (c.toNat ≤ 57)
/-- On from u, digit by digit; none: too great. -/
def accN : List UInt8 → Nat → Option Nat
  | [], u => some u
  | c :: r, u => if 1844674407370955161 < u ∨ (u = 1844674407370955161 ∧ 5 < c.toNat - 48) then none else accN r (u * 10 + (c.toNat - 48))
/-- The number and the code of a text. -/
def numR (l : List UInt8) : Nat × Nat :=
  if l = [] then (0, 3) else if l.all digB = false then (0, 3) else if l.head? = some 48 ∧ 1 < l.length then (0, 3) else
    match accN l 0 with
    | none => (0, 5)
    | some u => (u, 0)
theorem accN_lt : ∀ (l : List UInt8) (u v : Nat), l.all digB = true → u < 18446744073709551616 → accN l u = some v → v < 18446744073709551616
  | [], u, v, _, hu, h => by simp [accN] at h; omega
  | c :: r, u, v, hd, hu, h => by
    rw [accN] at h
    split at h
    · cases h
    · rename_i hn
      simp only [List.all_cons, Bool.and_eq_true] at hd
      have h2 := hd.1
      unfold digB at h2
      simp only [Bool.and_eq_true, decide_eq_true_eq] at h2
      exact accN_lt r _ v hd.2 (by omega) h
theorem numR_lt (l : List UInt8) : (numR l).1 < 18446744073709551616 := by
  unfold numR
  split
  · decide
  · split
    · decide
    · split
      · decide
      · rename_i h1 h2 h3
        split
        · decide
        · rename_i u hu
          exact accN_lt l 0 u (by simpa using h2) (by decide) hu
def NumRPost (r : Nat × Nat) (w : World) (e : Ending) (w' : World) : Prop := e = .returned (.tuple #[.int .u64 r.1, .int .i64 r.2]) ∧ Only [] w w'
theorem numr {a b : Nat} {r : Nat × Nat} {w w' : World} (h : r = (a, b)) (ho : Only [] w w') : NumRPost r w (.returned (.tuple #[.int .u64 a, .int .i64 b])) w' := by
  subst h; exact ⟨rfl, ho⟩
theorem only_iter (w : World) (s : ByteArray) (p : Nat) : Only [] w (w.iter s p) := (Only.refl [] w).alloc _
theorem all_false (l : List UInt8) (i : Nat) (h : i < l.length) (hd : digB l[i] = false) : l.all digB = false := by
  rw [List.all_eq_false]
  exact ⟨l[i], List.getElem_mem h, by simp [hd]⟩
theorem all_true (l : List UInt8) (h : ∀ i (hi : i < l.length), digB l[i] = true) : l.all digB = true := by
  rw [List.all_eq_true]
  intro x hx
  obtain ⟨i, hi, rfl⟩ := List.getElem_of_mem hx
  exact h i hi
theorem empty_of (s : ByteArray) (h : s.size = 0) : s.data.toList = [] := by
  rw [List.eq_nil_iff_length_eq_zero, Array.length_toList]; exact h
theorem not_empty (s : ByteArray) (h : 0 < s.size) : s.data.toList ≠ [] := by
  intro e
  have : s.data.toList.length = 0 := by rw [e]; rfl
  rw [Array.length_toList] at this
  have h2 : s.data.size = s.size := rfl
  omega
theorem numR_empty (s : ByteArray) (h : s.size = 0) : numR s.data.toList = (0, 3) := by unfold numR; rw [if_pos (empty_of s h)]
theorem numR_bad (s : ByteArray) (i : Nat) (h : i < s.size) (hd : digB s[i] = false) : numR s.data.toList = (0, 3) := by
  unfold numR; rw [if_neg (not_empty s (by omega)), if_pos (all_false _ i (by simpa using h) hd)]
theorem numR_lead (s : ByteArray) (h : 1 < s.size) (hd : s[0].toNat = 48) : numR s.data.toList = (0, 3) := by
  have hl : s.data.toList.length = s.size := rfl
  have hh : s.data.toList.head? = some 48 := by
    rw [List.head?_eq_getElem?, List.getElem?_eq_getElem (by omega)]
    congr 1
    exact UInt8.toNat_inj.1 hd
  unfold numR
  split
  · rfl
  · split
    · rfl
    · rw [if_pos ⟨hh, by omega⟩]
theorem numR_go (s : ByteArray) (h : 0 < s.size) (hd : s.data.toList.all digB = true) (h0 : ¬ (s[0].toNat = 48 ∧ 1 < s.size)) :
    numR s.data.toList = match accN s.data.toList 0 with | none => (0, 5) | some u => (u, 0) := by
  have hl : s.data.toList.length = s.size := rfl
  unfold numR
  rw [if_neg (not_empty s h), if_neg (by simp [hd]), if_neg]
  rintro ⟨a, b⟩
  refine h0 ⟨?_, by omega⟩
  rw [List.head?_eq_getElem?, List.getElem?_eq_getElem (by omega)] at a
  simp only [Option.some.injEq] at a
  have : s[0] = 48 := a
  rw [this]
  rfl
end
section
open Go.RowKit Go.Deep

/-- All signs before k are digits. -/
def Digs (s : ByteArray) (k : Nat) : Prop := ∀ i (h : i < s.size), i < k → digB s[i] = true
def ReadLoop (w : World) (s : ByteArray) (a' : Act) (w' : World) : Prop :=
  ∃ (K U : Int) (u1 u2 u3 u4 u5 u8 u9 u10 u11 u12 u13 u14 u15 u16 u17 u18 u19 u20 u21 u22 u23 u24 u25 u26 u27 u28 u29 u30 u31 u32 u33 u34 u35 u36 u37 u38 u39 u40 u41 u42 u43 u44 u45 u46 u47 u48 u49 u50 u51 u52 u53 u54 u55 : Value), a' = ⟨#[.string s, u1, u2, u3, u4, u5, .int .u64 U, .int .i64 K, u8, u9, u10, u11, u12, u13, u14, u15, u16, u17, u18, u19, u20, u21, u22, u23, u24, u25, u26, u27, u28, u29, u30, u31, u32, u33, u34, u35, u36, u37, u38, u39, u40, u41, u42, u43, u44, u45, u46, u47, u48, u49, u50, u51, u52, u53, u54, u55], []⟩ ∧ w' = w.iter s s.size ∧ ∃ k u : Nat, K = k ∧ U = u ∧ k ≤ s.size ∧ u < 18446744073709551616 ∧ Digs s s.size ∧ ¬ (1 < s.size ∧ s.data.toList.head? = some 48) ∧ accN (s.data.toList.drop k) u = accN s.data.toList 0

theorem toList_e (s : ByteArray) (h : s.size = 0) : s.toList.isEmpty = true := by rw [ByteArray.toList_eq, empty_of s h]; rfl
theorem toList_n (s : ByteArray) (h : 0 < s.size) : s.toList.isEmpty = false := by
  rw [ByteArray.toList_eq]
  cases hl : s.data.toList with
  | nil => exact absurd hl (not_empty s h)
  | cons _ _ => rfl
set_option maxRecDepth 100000 in
set_option maxHeartbeats 3200000 in
theorem num_read_empty (w : World) (s : ByteArray) (h0 : s.size = 0) :
    Calls Tryd.prog 22 #[.string s] w (NumRPost (numR s.data.toList) w) := by
  have HR := hide (numR_empty s h0)
  have he2 := toList_e s h0
  clear h0
  go_enter Tryd.func22, Tryd.ntmps22
  go_wp2_with fail
  refine wp_scope_jumps 0 (fun _ _ => False) (fun _ _ => 0) rfl ?_ ?_
  · go_wp2_with fail
    simp only [Exit.jump]
    refine bodyPost_ret (results_tmp2 rfl _ _ _) rfl ?_
    exact numr HR.out (Only.refl _ _)
  · intro a' w' h
    cases h
theorem digs_succ {s : ByteArray} {k : Nat} (h : Digs s k) (hk : k < s.size) (hd : digB s[k] = true) : Digs s (k + 1) := by
  intro i hi hik
  by_cases e : i = k
  · subst e; exact hd
  · exact h i hi (by omega)

theorem head_of {s : ByteArray} (hp : 0 < s.size) (h : ¬ (s[0].toNat = 48 ∧ 1 < s.size)) : ¬ (1 < s.size ∧ s.data.toList.head? = some 48) := by
  rintro ⟨a, b⟩
  refine h ⟨?_, a⟩
  rw [List.head?_eq_getElem?, List.getElem?_eq_getElem (by simpa using hp)] at b
  simp only [Option.some.injEq] at b
  have : s[0] = 48 := b
  rw [this]
  rfl
theorem of_head {s : ByteArray} (hp : 0 < s.size) (h : ¬ (1 < s.size ∧ s.data.toList.head? = some 48)) : ¬ (s[0].toNat = 48 ∧ 1 < s.size) := by
  rintro ⟨a, b⟩
  refine h ⟨b, ?_⟩
  rw [List.head?_eq_getElem?, List.getElem?_eq_getElem (by simpa using hp)]
  congr 1
  exact UInt8.toNat_inj.1 a
theorem decode_dig (s : ByteArray) (k : Nat) (h : k < s.size) (hd : digB s[k] = true) : Utf8.decode s k = (s[k].toNat, 1) := by
  refine decode_ascii s k h ?_
  simp [digB] at hd
  omega
theorem decode_bad (s : ByteArray) (k : Nat) (h : k < s.size) (hd : digB s[k] = false) : (Utf8.decode s k).1 < 48 ∨ 57 < (Utf8.decode s k).1 := by
  by_cases ha : s[k].toNat < 128
  · rw [decode_ascii s k h ha]
    simp [digB] at hd
    simp only
    omega
  · have := (decode_high s k h (by omega)).1
    omega

set_option maxRecDepth 100000 in
set_option maxHeartbeats 6400000 in
theorem num_read_some (w : World) (s : ByteArray) (hs : s.size ≤ maxLen) (hpos : 0 < s.size) :
    Calls Tryd.prog 22 #[.string s] w (NumRPost (numR s.data.toList) w) := by
  unfold maxLen at hs
  have he2 := toList_n s hpos
  go_enter Tryd.func22, Tryd.ntmps22
  go_wp2_with fail
  refine wp_scope_jumps 0 (ReadLoop w s) (fun a' _ => s.size - (intOf (a'.tmps.getD 7 undef)).toNat) rfl ?_ ?_
  · go_wp2_with fail
    go_loopg [5] s.size (fun gk r wr => ∃ k : Nat, k ≤ s.size ∧ gk + k = s.size ∧ Hid (Digs s k) ∧ wr = w.iter s k)
    case atStart => exact ⟨0, Nat.zero_le _, by omega, hide (fun i _ h => by omega), rfl⟩
    case round =>
      obtain ⟨k, hk, hgk, hdg, rfl⟩ := hrel
      have HG := hide hgk
      clear hgk
      by_cases hlt : k < s.size
      · have hnx : ∀ ty, (Instr.next (.pointer (some ⟨w.heap.size, 0, none⟩)) true ty).run Tryd.prog (w.iter s k) = _ := fun ty => run_next_any w s k ty hlt
        cases hd : digB s[k] with
        | true =>
          rw [decode_dig s k hlt hd] at hnx
          have hc1 : 48 ≤ s[k].toNat := by simp [digB] at hd; omega
          have hc2 : s[k].toNat ≤ 57 := by simp [digB] at hd; omega
          have hc1' : (48 : Int) ≤ s[k].toNat := by omega
          have hc2' : (s[k].toNat : Int) ≤ 57 := by omega
          have HS := hide (digs_succ hdg.out hlt hd)
          clear hd
          go_wp2_with fail
          go_roundg (gk - 1)
          case rel => exact ⟨k + 1, by omega, by have := HG.out; omega, HS, rfl⟩
          case measure => have := HG.out; omega
        | false =>
          have hb := decode_bad s k hlt hd
          have HR := hide (numR_bad s k hlt hd)
          have hr := decode_le s k
          clear hd
          generalize Utf8.decode s k = d at *
          obtain ⟨r, n⟩ := d
          simp only at hb hr hnx
          rcases hb with hb | hb
          · have hb' : (r : Int) < 48 := by omega
            go_wp2_with fail
            simp only [Exit.jump]
            refine bodyPost_ret (results_tmp2 rfl _ _ _) rfl ?_
            exact numr HR.out (only_iter w s _)
          · have hb' : (57 : Int) < r := by omega
            have hb2 : ¬ (r : Int) < 48 := by omega
            go_wp2_with fail
            simp only [Exit.jump]
            refine bodyPost_ret (results_tmp2 rfl _ _ _) rfl ?_
            exact numr HR.out (only_iter w s _)
      · obtain rfl : k = s.size := by omega
        have hnx : ∀ ty, (Instr.next (.pointer (some ⟨w.heap.size, 0, none⟩)) true ty).run Tryd.prog (w.iter s s.size) = _ := fun ty => run_next_end w s s.size ty hlt
        have HALL := hide (all_true s.data.toList fun i hi => hdg.out i (by simpa using hi) (by simpa using hi))
        by_cases hlead : s[0].toNat = 48 ∧ 1 < s.size
        · obtain ⟨h1, h2⟩ := hlead
          have HR := hide (numR_lead s h2 h1)
          have h1' : ((s[0].toNat : Int) == 48) = true := by rw [beq_iff_eq]; omega
          have h2' : (1 : Int) < s.size := by omega
          clear h1
          go_wp2_with fail
          simp only [Exit.jump]
          refine bodyPost_ret (results_tmp2 rfl _ _ _) rfl ?_
          exact numr HR.out (only_iter w s _)
        · have HGO := hide (numR_go s hpos HALL.out hlead)
          have HDG := hide hdg.out
          have HLD := hide (head_of hpos hlead)
          have HACC := hide (show accN (s.data.toList.drop 0) 0 = accN s.data.toList 0 from rfl)
          have hlt0 : 0 < s.size := hpos
          have hltI : (0 : Int) < s.size := by omega
          have hb2 : ((0 : Int) == (s.size : Int)) = false := by rw [beq_eq_false_iff_ne]; omega
          have HDR := hide (drop_at s 0 hpos)
          have HC := hdg.out 0 hpos hpos
          have hc1 : 48 ≤ s[0].toNat := by simp [digB] at HC; omega
          have hc2 : s[0].toNat ≤ 57 := by simp [digB] at HC; omega
          have hc1' : (48 : Int) ≤ s[0].toNat := by omega
          have hc2' : (s[0].toNat : Int) ≤ 57 := by omega
          have HN := hide (show accN (s.data.toList.drop (0 + 1)) (s[0].toNat - 48) = accN s.data.toList 0 from by rw [← HACC.out, HDR.out, accN, if_neg (by omega)]; simp only [Nat.zero_mul, Nat.zero_add])
          clear HC
          by_cases h1 : s[0].toNat = 48
          · have h1' : ((s[0].toNat : Int) == 48) = true := by rw [beq_iff_eq]; omega
            have h2' : ¬ (1 : Int) < s.size := by omega
            clear h1 hlead
            go_wp2_with fail
            go_step3
            go_wp2_with fail
            go_step3
            exact ⟨rfl, _, _, _, _, _, _, _, _, _, _, _, _, _, _, _, _, _, _, _, _, _, _, _, _, _, _, _, _, _, _, _, _, _, _, _, _, _, _, _, _, _, _, _, _, _, _, _, _, _, _, _, _, _, _, _, rfl, rfl, 1, s[0].toNat - 48, by omega, by omega, by omega, by omega, HDG.out, HLD.out, HN.out⟩
          · have h1' : ((s[0].toNat : Int) == 48) = false := by rw [beq_eq_false_iff_ne]; omega
            clear h1 hlead
            go_wp2_with fail
            go_step3
            go_wp2_with fail
            go_step3
            exact ⟨rfl, _, _, _, _, _, _, _, _, _, _, _, _, _, _, _, _, _, _, _, _, _, _, _, _, _, _, _, _, _, _, _, _, _, _, _, _, _, _, _, _, _, _, _, _, _, _, _, _, _, _, _, _, _, _, _, rfl, rfl, 1, s[0].toNat - 48, by omega, by omega, by omega, by omega, HDG.out, HLD.out, HN.out⟩
  · rintro a' w' ⟨K, U, u1, u2, u3, u4, u5, u8, u9, u10, u11, u12, u13, u14, u15, u16, u17, u18, u19, u20, u21, u22, u23, u24, u25, u26, u27, u28, u29, u30, u31, u32, u33, u34, u35, u36, u37, u38, u39, u40, u41, u42, u43, u44, u45, u46, u47, u48, u49, u50, u51, u52, u53, u54, u55, rfl, rfl, k, u, rfl, rfl, hk, hu, hdg, hld, hacc⟩
    have HDG := hide hdg
    have HLD := hide hld
    have HACC := hide hacc
    have HALL := hide hdg
    have HGO := hide (numR_go s hpos (all_true s.data.toList fun i hi => hdg i (by simpa using hi) (by simpa using hi)) (of_head hpos hld))
    clear hdg hld hacc
    by_cases hke : k = s.size
    · have HR := hide (show numR s.data.toList = (u, 0) from by rw [HGO.out, ← HACC.out, hke, show List.drop s.size s.data.toList = [] from List.drop_of_length_le (Nat.le_of_eq rfl)]; rfl)
      have hb2 : ((k : Int) == (s.size : Int)) = true := by rw [beq_iff_eq]; omega
      clear hke
      go_wp2_with fail
      simp only [Exit.jump]
      refine bodyPost_ret (results_tmp2 rfl _ _ _) rfl ?_
      exact numr HR.out (only_iter w s s.size)
    · have hlt : k < s.size := by omega
      have hlt' : (k : Int) < s.size := by omega
      have hb2 : ((k : Int) == (s.size : Int)) = false := by rw [beq_eq_false_iff_ne]; omega
      have HDR := hide (drop_at s k hlt)
      have HC := HALL.out k hlt hlt
      have hc1 : 48 ≤ s[k].toNat := by simp [digB] at HC; omega
      have hc2 : s[k].toNat ≤ 57 := by simp [digB] at HC; omega
      have hc1' : (48 : Int) ≤ s[k].toNat := by omega
      have hc2' : (s[k].toNat : Int) ≤ 57 := by omega
      clear HC hke
      by_cases h1 : 1844674407370955161 < u
      · have HR := hide (show numR s.data.toList = (0, 5) from by rw [HGO.out, ← HACC.out, HDR.out, accN, if_pos (.inl h1)])
        have h1' : (1844674407370955161 : Int) < u := by omega
        clear h1
        go_wp2_with fail
        simp only [Exit.jump]
        refine bodyPost_ret (results_tmp2 rfl _ _ _) rfl ?_
        exact numr HR.out (only_iter w s s.size)
      · have h1' : ¬ (1844674407370955161 : Int) < u := by omega
        by_cases h2 : u = 1844674407370955161
        · have HU := hide h2
          have h2' : ((u : Int) == 1844674407370955161) = true := by rw [beq_iff_eq]; omega
          by_cases h3 : 53 < s[k].toNat
          · have HR := hide (show numR s.data.toList = (0, 5) from by rw [HGO.out, ← HACC.out, HDR.out, accN, if_pos (.inr ⟨HU.out, by omega⟩)])
            have h3' : (5 : Int) < s[k].toNat - 48 := by omega
            clear h1 h2 h3
            go_wp2_with fail
            simp only [Exit.jump]
            refine bodyPost_ret (results_tmp2 rfl _ _ _) rfl ?_
            exact numr HR.out (only_iter w s s.size)
          · have HN := hide (show accN (s.data.toList.drop (k + 1)) (u * 10 + (s[k].toNat - 48)) = accN s.data.toList 0 from by rw [← HACC.out, HDR.out, accN, if_neg (by omega)])
            have h3' : ¬ (5 : Int) < s[k].toNat - 48 := by omega
            have hlim : u * 10 + (s[k].toNat - 48) < 18446744073709551616 := by omega
            clear h1 h2 h3
            go_wp2_with fail
            go_step3
            refine ⟨rfl, ⟨_, _, _, _, _, _, _, _, _, _, _, _, _, _, _, _, _, _, _, _, _, _, _, _, _, _, _, _, _, _, _, _, _, _, _, _, _, _, _, _, _, _, _, _, _, _, _, _, _, _, _, _, _, _, _, rfl, rfl, k + 1, u * 10 + (s[k].toNat - 48), by omega, by omega, by omega, hlim, HDG.out, HLD.out, HN.out⟩, ?_⟩
            simp [intOf]
            omega
        · have HN := hide (show accN (s.data.toList.drop (k + 1)) (u * 10 + (s[k].toNat - 48)) = accN s.data.toList 0 from by rw [← HACC.out, HDR.out, accN, if_neg (by omega)])
          have h2' : ((u : Int) == 1844674407370955161) = false := by rw [beq_eq_false_iff_ne]; omega
          have hlim : u * 10 + (s[k].toNat - 48) < 18446744073709551616 := by omega
          have hu1 : (u : Int) ≤ 1844674407370955160 := by omega
          clear h1 h2
          go_wp2_with fail
          go_step3
          refine ⟨rfl, ⟨_, _, _, _, _, _, _, _, _, _, _, _, _, _, _, _, _, _, _, _, _, _, _, _, _, _, _, _, _, _, _, _, _, _, _, _, _, _, _, _, _, _, _, _, _, _, _, _, _, _, _, _, _, _, _, rfl, rfl, k + 1, u * 10 + (s[k].toNat - 48), by omega, by omega, by omega, hlim, HDG.out, HLD.out, HN.out⟩, ?_⟩
          simp [intOf]
          omega
end
section
open Go.RowKit Go.Deep

theorem num_read (w : World) (s : ByteArray) (hs : s.size ≤ 1000000) : Calls Tryd.prog 22 #[.string s] w (NumRPost (numR s.data.toList) w) := by
  rcases Nat.eq_zero_or_pos s.size with h | h
  · exact num_read_empty w s h
  · exact num_read_some w s (by unfold maxLen; omega) h

def hexB (c : UInt8) : Bool := decide (0 ≤ signV c.toNat)
def nib (c : UInt8) : Nat := (signV c.toNat).toNat
def hexP : List UInt8 → List UInt8
  | a :: b :: r => UInt8.ofNat (16 * nib a + nib b) :: hexP r
  | _ => []
def hexR (l : List UInt8) : List UInt8 × Nat := if l.all hexB = false then ([], 3) else if l.length % 2 = 1 then ([], 4) else (hexP l, 0)
theorem nib_lt (c : UInt8) : nib c < 16 := by unfold nib signV; split <;> (try split) <;> omega
theorem sign_nib {c : UInt8} (h : hexB c = true) : signV c.toNat = (nib c : Nat) := by
  unfold hexB at h
  unfold nib
  have := of_decide_eq_true h
  omega
theorem sign_low {r : Int} (h : 0 ≤ signV r) : 48 ≤ r ∧ r ≤ 102 := by unfold signV at h; split at h <;> (try split at h) <;> omega
def Hexs (s : ByteArray) (k : Nat) : Prop := ∀ i (h : i < s.size), i < k → hexB s[i] = true
theorem hexs_succ {s : ByteArray} {k : Nat} (h : Hexs s k) (hk : k < s.size) (hd : hexB s[k] = true) : Hexs s (k + 1) := by
  intro i hi hik
  by_cases e : i = k
  · subst e; exact hd
  · exact h i hi (by omega)
theorem decode_hex (s : ByteArray) (k : Nat) (h : k < s.size) (hd : hexB s[k] = true) : Utf8.decode s k = (s[k].toNat, 1) := by
  refine decode_ascii s k h ?_
  have := sign_low (of_decide_eq_true hd)
  omega
theorem decode_nohex (s : ByteArray) (k : Nat) (h : k < s.size) (hd : hexB s[k] = false) : signV (Utf8.decode s k).1 < 0 := by
  by_cases ha : s[k].toNat < 128
  · rw [decode_ascii s k h ha]
    have := of_decide_eq_false hd
    simp only
    omega
  · have h1 := (decode_high s k h (by omega)).1
    by_cases h2 : 0 ≤ signV (Utf8.decode s k).1
    · have := sign_low h2
      omega
    · omega
theorem hexR_bad (s : ByteArray) (i : Nat) (h : i < s.size) (hd : hexB s[i] = false) : hexR s.data.toList = ([], 3) := by
  unfold hexR
  rw [if_pos]
  rw [List.all_eq_false]
  exact ⟨s[i], (by rw [Array.mem_toList_iff]; exact Array.getElem_mem (by simpa using h)), by simp [hd]⟩
theorem hexs_all {s : ByteArray} (h : Hexs s s.size) : s.data.toList.all hexB = true := by
  rw [List.all_eq_true]
  intro x hx
  obtain ⟨i, hi, rfl⟩ := List.getElem_of_mem hx
  exact h i (by simpa using hi) (by simpa using hi)
theorem hexR_odd {s : ByteArray} (h : Hexs s s.size) (ho : s.size % 2 = 1) : hexR s.data.toList = ([], 4) := by
  unfold hexR
  rw [if_neg (by rw [hexs_all h]; simp), if_pos (by rw [Array.length_toList]; exact ho)]
theorem hexR_even {s : ByteArray} (h : Hexs s s.size) (ho : s.size % 2 = 0) : hexR s.data.toList = (hexP s.data.toList, 0) := by
  unfold hexR
  rw [if_neg (by rw [hexs_all h]; simp), if_neg (by rw [Array.length_toList]; show ¬ s.size % 2 = 1; omega)]
theorem hexP_append : ∀ (l m : List UInt8), l.length % 2 = 0 → hexP (l ++ m) = hexP l ++ hexP m
  | [], m, _ => rfl
  | [a], m, h => by simp at h
  | a :: b :: r, m, h => by
    simp only [List.cons_append, hexP]
    rw [hexP_append r m (by simp at h; omega)]
theorem hexP_take (s : ByteArray) (j : Nat) (h : 2 * j + 1 < s.size) : hexP (s.data.toList.take (2 * (j + 1))) = hexP (s.data.toList.take (2 * j)) ++ [UInt8.ofNat (16 * nib s[2 * j] + nib s[2 * j + 1])] := by
  have hl : s.data.toList.length = s.size := rfl
  have e : s.data.toList.take (2 * (j + 1)) = s.data.toList.take (2 * j) ++ [s[2 * j], s[2 * j + 1]] := by
    rw [show 2 * (j + 1) = 2 * j + 1 + 1 by omega, List.take_succ_eq_append_getElem (by omega), List.take_succ_eq_append_getElem (by omega), List.append_assoc]
    rfl
  rw [e, hexP_append _ _ (by rw [List.length_take]; omega)]
  rfl
/-- Handed back: bytes in a slice of the call's own, and a code. -/
def BytsPost (r : List UInt8 × Nat) (w : World) (e : Ending) (w' : World) : Prop :=
  ∃ v, e = .returned (.tuple #[v, .int .i64 r.2]) ∧ Only [] w w' ∧ ∀ N : List Nat, (∀ x ∈ N, x < w.heap.size) → Rd w' N v (ints .u8 (byts r.1))
theorem byts_nil {r : List UInt8 × Nat} {c : Nat} {w w' : World} (h : r = ([], c)) (ho : Only [] w w') : BytsPost r w (.returned (.tuple #[.slice none 0 0, .int .i64 c])) w' := by
  subst h; exact ⟨_, rfl, ho, fun N _ => Rd.nil w' N⟩
end
end Go.Proofs.YthecnaclfhfilaaDoor

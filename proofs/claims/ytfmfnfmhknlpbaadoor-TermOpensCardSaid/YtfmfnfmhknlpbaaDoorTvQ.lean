/-
  term's Value, Bytes, Parts, Signed and Open, and the reference's Open, at any texts: by walking. Condition: at most 1,000,000 bytes.
-/
import Derived.Test.YtfmfnfmhknlpbaaDoorRt11Q
namespace Go.Proofs.YtfmfnfmhknlpbaaDoor
open Go.RowKit Go.Deep

def valT (s : ByteArray) : Nat × Bool := match parseV s with | none => (0, false) | some nd => if numberedV nd.1 = true then (nd.2.1, true) else (0, false)
def bytT (s : ByteArray) : List UInt8 × Bool := match parseV s with | none => ([], false) | some nd => if nd.1 = 4 then (nd.2.2.1, true) else ([], false)
def parT (s : ByteArray) : List ByteArray := match parseV s with | none => [] | some nd => nd.2.2.2
def ValuePost (r : Nat × Bool) (w : World) (e : Ending) (w' : World) : Prop := e = .returned (.tuple #[.int .u64 (r.1 : Nat), .bool r.2]) ∧ Only [] w w'
theorem valuepost {r : Nat × Bool} {a : Nat} {b : Bool} {w w' : World} (h : r = (a, b)) (ho : Only [] w w') : ValuePost r w (.returned (.tuple #[.int .u64 (a : Nat), .bool b])) w' := by subst h; exact ⟨rfl, ho⟩
def BytesPost (r : List UInt8 × Bool) (w : World) (e : Ending) (w' : World) : Prop :=
  ∃ v, e = .returned (.tuple #[v, .bool r.2]) ∧ Only [] w w' ∧ ∀ N : List Nat, (∀ x ∈ N, x < w.heap.size) → Rd w' N v (ints .u8 (byts r.1))
theorem bytespost {r : List UInt8 × Bool} {l : List UInt8} {b : Bool} {v : Value} {w w' : World} (h : r = (l, b)) (ho : Only [] w w') (hr : ∀ N : List Nat, (∀ x ∈ N, x < w.heap.size) → Rd w' N v (ints .u8 (byts l))) :
    BytesPost r w (.returned (.tuple #[v, .bool b])) w' := by subst h; exact ⟨_, rfl, ho, hr⟩
def PartsPost (r : List ByteArray) (w : World) (e : Ending) (w' : World) : Prop :=
  ∃ v, e = .returned v ∧ Only [] w w' ∧ ∀ N : List Nat, (∀ x ∈ N, x < w.heap.size) → Rd w' N v (strs r)
theorem partspost {r l : List ByteArray} {v : Value} {w w' : World} (h : r = l) (ho : Only [] w w') (hr : ∀ N : List Nat, (∀ x ∈ N, x < w.heap.size) → Rd w' N v (strs l)) :
    PartsPost r w (.returned v) w' := by subst h; exact ⟨_, rfl, ho, hr⟩
/-- Two texts the same? -/
def eqB (a b : ByteArray) : Bool := a.toList == b.toList
theorem eqB_iff (a b : ByteArray) : eqB a b = true ↔ a = b := by
  unfold eqB
  rw [beq_iff_eq, ByteArray.toList_eq, ByteArray.toList_eq]
  exact ⟨data_inj, fun h => by rw [h]⟩
theorem eqB_no {a b : ByteArray} : eqB a b = false ↔ a ≠ b := by rw [← Bool.not_eq_true, eqB_iff]
def signT (t key u : ByteArray) : Bool := match parseV t with
  | some (k, _, _, l) => decide (k = 9) && eqB (l.getD 0 ByteArray.empty) key && eqB (l.getD 1 ByteArray.empty) u
  | none => false
def openT (t key : ByteArray) (n : Nat) (v : ByteArray) : ByteArray × Int := match parseV t with
  | some (k, m, _, l) => if k ≠ 10 then (ByteArray.empty, 3) else if l.getD 0 ByteArray.empty = key ∧ m = n ∧ l.getD 2 ByteArray.empty = v then (l.getD 1 ByteArray.empty, 0) else (ByteArray.empty, 8)
  | none => (ByteArray.empty, 3)
def OpenPost (r : ByteArray × Int) (w : World) (e : Ending) (w' : World) : Prop := e = .returned (.tuple #[.string r.1, .int .i64 r.2]) ∧ Only [] w w'
theorem openpost {r : ByteArray × Int} {a : ByteArray} {b : Int} {w w' : World} (h : r = (a, b)) (ho : Only [] w w') : OpenPost r w (.returned (.tuple #[.string a, .int .i64 b])) w' := by subst h; exact ⟨rfl, ho⟩
/-- The texts of a slice, as cells. -/
theorem rd_strs {w : World} {N : List Nat} {A : Option Addr} {n cap : Nat} {l : List ByteArray} (h : Rd w N (.slice A n cap) (strs l)) (h0 : 0 < l.length) :
    ∃ g o, A = some ⟨g, o, none⟩ ∧ n = l.length ∧ ∀ i, i < l.length → w.cell? ⟨g, o + i, none⟩ = some (.string (l.getD i ByteArray.empty)) := by
  obtain ⟨h1, _, _, h2⟩ := h.at_
  have key : ∀ i, i < l.length → (strs l)[i]? = some (.string (l.getD i ByteArray.empty)) := by
    intro i hi
    simp [strs, List.getElem?_eq_getElem hi]
  obtain ⟨g, o, hA, _, _, _⟩ := h2 0 _ (key 0 h0)
  refine ⟨g, o, hA, by rw [h1, strs_length], fun i hi => ?_⟩
  obtain ⟨g', o', hA', _, _, hc⟩ := h2 i _ (key i hi)
  rw [hA] at hA'
  injection hA' with hA'
  injection hA' with e1 e2
  subst e1 e2
  exact hc

set_option maxRecDepth 100000 in
set_option maxHeartbeats 3200000 in
theorem Value_any (w : World) (s : ByteArray) (hs : s.size ≤ maxLen) : Calls Tryd.prog 26 #[.string s] w (ValuePost (valT s) w) := by
  have HP := hide (parse_any w s hs)
  cases hp : parseV s with
  | none =>
    rw [hp] at HP
    have HV := hide (show valT s = (0, false) by unfold valT; rw [hp])
    clear hp
    go_enter Tryd.func26, Tryd.ntmps26
    go_wp2_with (go_at_call 61; refine HP.out.mono ?_; rintro e w1 ⟨rfl, ho⟩; unfold nd0; have HO := hide ho; clear ho)
    go_ret2
    exact valuepost HV.out (HO.out.alloc _)
  | some nd =>
    obtain ⟨k, n, bs, parts⟩ := nd
    rw [hp] at HP
    cases hnb : numberedV k with
    | true =>
      have HV := hide (show valT s = (n, true) by unfold valT; rw [hp]; simp only; rw [if_pos hnb])
      have HNB := hide hnb
      clear hp hnb
      go_enter Tryd.func26, Tryd.ntmps26
      go_wp2_with (first | (go_at_call 61; refine HP.out.mono ?_; rintro e w1 ⟨bv, pv, rfl, ho, hb, hp⟩; obtain ⟨A, cap, rfl, _, _⟩ := (hb [] (by simp)).formb; obtain ⟨A2, cap2, rfl, _, _⟩ := (hp [] (by simp)).form; have HO := hide ho; clear ho hb hp) | (go_at_call 57; refine (numbered_any _ _).mono ?_; rintro e w' ⟨rfl, rfl⟩; rw [HNB.out]))
      go_ret2
      exact valuepost HV.out (HO.out.alloc _)
    | false =>
      have HV := hide (show valT s = (0, false) by unfold valT; rw [hp]; simp only; rw [if_neg (by rw [hnb]; decide)])
      have HNB := hide hnb
      clear hp hnb
      go_enter Tryd.func26, Tryd.ntmps26
      go_wp2_with (first | (go_at_call 61; refine HP.out.mono ?_; rintro e w1 ⟨bv, pv, rfl, ho, hb, hp⟩; obtain ⟨A, cap, rfl, _, _⟩ := (hb [] (by simp)).formb; obtain ⟨A2, cap2, rfl, _, _⟩ := (hp [] (by simp)).form; have HO := hide ho; clear ho hb hp) | (go_at_call 57; refine (numbered_any _ _).mono ?_; rintro e w' ⟨rfl, rfl⟩; rw [HNB.out]))
      go_ret2
      exact valuepost HV.out (HO.out.alloc _)

set_option maxRecDepth 100000 in
set_option maxHeartbeats 3200000 in
theorem Bytes_any (w : World) (s : ByteArray) (hs : s.size ≤ maxLen) : Calls Tryd.prog 27 #[.string s] w (BytesPost (bytT s) w) := by
  have HP := hide (parse_any w s hs)
  cases hp : parseV s with
  | none =>
    rw [hp] at HP
    have HV := hide (show bytT s = ([], false) by unfold bytT; rw [hp])
    clear hp
    go_enter Tryd.func27, Tryd.ntmps27
    go_wp2_with (go_at_call 61; refine HP.out.mono ?_; rintro e w1 ⟨rfl, ho⟩; unfold nd0; have HO := hide ho; clear ho)
    go_ret2
    exact bytespost HV.out (HO.out.alloc _) (fun N _ => Rd.nil _ N)
  | some nd =>
    obtain ⟨k, n, bs, parts⟩ := nd
    rw [hp] at HP
    by_cases hk : k = 4
    · have HV := hide (show bytT s = (bs, true) by unfold bytT; rw [hp]; simp only; rw [if_pos hk])
      have hkb : (k != 4) = false := by rw [bne_eq_false_iff_eq]; exact hk
      clear hp hk
      go_enter Tryd.func27, Tryd.ntmps27
      go_wp2_with (go_at_call 61; refine HP.out.mono ?_; rintro e w1 ⟨bv, pv, rfl, ho, hb, hp⟩; obtain ⟨A, cap, rfl, _, _⟩ := (hb [] (by simp)).formb; obtain ⟨A2, cap2, rfl, _, _⟩ := (hp [] (by simp)).form; have HO := hide ho; have HRB := hide hb; clear ho hb hp)
      go_ret2
      exact bytespost HV.out (HO.out.alloc _) (fun N hN => (HRB.out N hN).only ((Only.refl [] _).alloc _) (by simp))
    · have HV := hide (show bytT s = ([], false) by unfold bytT; rw [hp]; simp only; rw [if_neg hk])
      have hkb : (k != 4) = true := by rw [bne_iff_ne]; exact hk
      clear hp hk
      go_enter Tryd.func27, Tryd.ntmps27
      go_wp2_with (go_at_call 61; refine HP.out.mono ?_; rintro e w1 ⟨bv, pv, rfl, ho, hb, hp⟩; obtain ⟨A, cap, rfl, _, _⟩ := (hb [] (by simp)).formb; obtain ⟨A2, cap2, rfl, _, _⟩ := (hp [] (by simp)).form; have HO := hide ho; clear ho hb hp)
      go_ret2
      exact bytespost HV.out (HO.out.alloc _) (fun N _ => Rd.nil _ N)

set_option maxRecDepth 100000 in
set_option maxHeartbeats 3200000 in
theorem Parts_any (w : World) (s : ByteArray) (hs : s.size ≤ maxLen) : Calls Tryd.prog 20 #[.string s] w (PartsPost (parT s) w) := by
  have HP := hide (parse_any w s hs)
  cases hp : parseV s with
  | none =>
    rw [hp] at HP
    have HV := hide (show parT s = [] by unfold parT; rw [hp])
    clear hp
    go_enter Tryd.func20, Tryd.ntmps20
    go_wp2_with (go_at_call 61; refine HP.out.mono ?_; rintro e w1 ⟨rfl, ho⟩; unfold nd0; have HO := hide ho; clear ho)
    go_ret
    exact partspost HV.out (HO.out.alloc _) (fun N _ => Rd.nil _ N)
  | some nd =>
    obtain ⟨k, n, bs, parts⟩ := nd
    rw [hp] at HP
    have HV := hide (show parT s = parts by unfold parT; rw [hp])
    clear hp
    go_enter Tryd.func20, Tryd.ntmps20
    go_wp2_with (go_at_call 61; refine HP.out.mono ?_; rintro e w1 ⟨bv, pv, rfl, ho, hb, hp⟩; obtain ⟨A, cap, rfl, _, _⟩ := (hb [] (by simp)).formb; obtain ⟨A2, cap2, rfl, _, _⟩ := (hp [] (by simp)).form; have HO := hide ho; have HRP := hide hp; clear ho hb hp)
    go_ret
    exact partspost HV.out (HO.out.alloc _) (fun N hN => (HRP.out N hN).only ((Only.refl [] _).alloc _) (by simp))

set_option maxRecDepth 100000 in
set_option maxHeartbeats 3200000 in
theorem Signed_any (w : World) (t key u : ByteArray) (hs : t.size ≤ maxLen) : Calls Tryd.prog 24 #[.string t, .string key, .string u] w (RetB (signT t key u) w) := by
  have HP := hide (parse_any w t hs)
  cases hp : parseV t with
  | none =>
    rw [hp] at HP
    have HV := hide (show signT t key u = false by unfold signT; rw [hp])
    clear hp
    go_enter Tryd.func24, Tryd.ntmps24
    go_wp2_with (go_at_call 61; refine HP.out.mono ?_; rintro e w1 ⟨rfl, ho⟩; unfold nd0; have HO := hide ho; clear ho)
    go_ret
    exact retb HV.out (HO.out.alloc _)
  | some nd =>
    obtain ⟨k, n, bs, parts⟩ := nd
    have hm := (read_make hp).2.2.2.1
    rw [hp] at HP
    by_cases hk : k = 9
    · subst hk
      have hl : parts.length = 2 := by
        simp only [fitsV, leastV, mostV] at hm
        simp at hm
        omega
      obtain ⟨p0, p1, rfl⟩ : ∃ a b, parts = [a, b] := by
        match parts, hl with
        | [a, b], _ => exact ⟨a, b, rfl⟩
      have HV := hide (show signT t key u = (eqB p0 key && eqB p1 u) by unfold signT; rw [hp]; rfl)
      clear hp hm hl
      unfold eqB at HV
      rcases Bool.eq_false_or_eq_true (p0.toList == key.toList) with e0 | e0
      all_goals
        rcases Bool.eq_false_or_eq_true (p1.toList == u.toList) with e1 | e1
        all_goals
          rw [e0, e1] at HV
          go_enter Tryd.func24, Tryd.ntmps24
          go_wp2_with (go_at_call 61; refine HP.out.mono ?_; rintro e w1 ⟨bv, pv, rfl, ho, hb, hp⟩; obtain ⟨A, cap, rfl, _, _⟩ := (hb [] (by simp)).formb; obtain ⟨A2, cap2, rfl, _, _⟩ := (hp [] (by simp)).form; obtain ⟨g, o, rfl, _, hc⟩ := rd_strs ((hp [] (by simp)).only ((Only.refl [] _).alloc (.cells #[.int .i64 9, .int .u64 (n : Nat), .slice A bs.length cap, .slice A2 2 cap2] 81)) (by simp)) (by simp); have s0 := hc 0 (by simp); have s1 := hc 1 (by simp); simp at s0 s1; have HO := hide ho; clear ho hb hp hc; simp only [strs, List.map_cons, List.map_nil, List.length_cons, List.length_nil])
          go_ret
          exact retb HV.out (HO.out.alloc _)
    · have HV := hide (show signT t key u = false by unfold signT; rw [hp]; simp [hk])
      have hkb : (k == 9) = false := by rw [beq_eq_false_iff_ne]; exact hk
      clear hp hk hm
      go_enter Tryd.func24, Tryd.ntmps24
      go_wp2_with (go_at_call 61; refine HP.out.mono ?_; rintro e w1 ⟨bv, pv, rfl, ho, hb, hp⟩; obtain ⟨A, cap, rfl, _, _⟩ := (hb [] (by simp)).formb; obtain ⟨A2, cap2, rfl, _, _⟩ := (hp [] (by simp)).form; have HO := hide ho; clear ho hb hp)
      go_ret
      exact retb HV.out (HO.out.alloc _)
end Go.Proofs.YtfmfnfmhknlpbaaDoor

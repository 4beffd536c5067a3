/-
  Walks and plain words (texts Gq, Tv, Rs, Bd, Lt, Join, Bc). No condition beyond those that each theorem states.
-/
import Derived.Shelf.Strings.Builder1
import Derived.Maps.Own
import Derived.Maps.OwnOps
import Derived.Handy
import Derived.Test.YtcokjoidpnfjhaaGreatDoorA15
namespace Go.Proofs.YtcokjoidpnfjhaaGreatDoor
section
open Go.RowKit Go.Deep

theorem less_asym : ∀ a b : List UInt8, Op.bytesLess a b = true → Op.bytesLess b a = false
  | _, [], h => by simp [Op.bytesLess] at h
  | [], _ :: _, _ => rfl
  | a :: x, b :: y, h => by
    simp only [Op.bytesLess, Bool.or_eq_true, decide_eq_true_eq, Bool.and_eq_true, beq_iff_eq] at h
    simp only [Op.bytesLess, Bool.or_eq_false_iff, decide_eq_false_iff_not, Bool.and_eq_false_imp, beq_iff_eq]
    rcases h with h | ⟨rfl, h⟩
    · refine ⟨?_, ?_⟩
      · intro h2
        have h3 : a.toNat < b.toNat := h
        have h4 : b.toNat < a.toNat := h2
        omega
      · rintro rfl
        have h3 : b.toNat < b.toNat := h
        omega
    · refine ⟨?_, fun _ => less_asym x y h⟩
      intro h2
      have h3 : a.toNat < a.toNat := h2
      omega
theorem less_total : ∀ a b : List UInt8, Op.bytesLess a b = false → Op.bytesLess b a = false → a = b
  | [], [], _, _ => rfl
  | [], _ :: _, h, _ => by simp [Op.bytesLess] at h
  | _ :: _, [], _, h => by simp [Op.bytesLess] at h
  | a :: x, b :: y, h, h2 => by
    simp only [Op.bytesLess, Bool.or_eq_false_iff, decide_eq_false_iff_not, Bool.and_eq_false_imp, beq_iff_eq] at h h2
    have e : a = b := by
      apply UInt8.toNat_inj.1
      have h3 : ¬ a.toNat < b.toNat := h.1
      have h4 : ¬ b.toNat < a.toNat := h2.1
      omega
    subst e
    rw [less_total x y (h.2 rfl) (h2.2 rfl)]
theorem data_inj {a b : ByteArray} (h : a.data.toList = b.data.toList) : a = b := ByteArray.ext (Array.toList_inj.1 h)
theorem gt_iff (a b : ByteArray) : gtB a b = true ↔ Op.bytesLess b.data.toList a.data.toList = true := by
  unfold gtB
  rw [ByteArray.toList_eq, ByteArray.toList_eq, Bool.not_eq_true', Bool.or_eq_false_iff]
  constructor
  · rintro ⟨h1, h2⟩
    cases h : Op.bytesLess b.data.toList a.data.toList with
    | true => rfl
    | false =>
      rw [less_total _ _ h1 h] at h2
      simp at h2
  · intro h
    have h1 := less_asym _ _ h
    refine ⟨h1, ?_⟩
    rw [beq_eq_false_iff_ne]
    intro e
    rw [e] at h h1
    rw [h] at h1
    cases h1
theorem gt_asym {a b : ByteArray} (h : gtB a b = true) : gtB b a = false := by
  rw [Bool.eq_false_iff]
  intro h2
  have h3 := less_asym _ _ ((gt_iff a b).1 h)
  rw [(gt_iff b a).1 h2] at h3
  cases h3
theorem gt_total {a b : ByteArray} (h : gtB a b = false) (h2 : gtB b a = false) : a = b := by
  apply data_inj
  apply less_total
  · cases h3 : Op.bytesLess a.data.toList b.data.toList with
    | false => rfl
    | true => rw [(gt_iff b a).2 h3] at h2; cases h2
  · cases h3 : Op.bytesLess b.data.toList a.data.toList with
    | false => rfl
    | true => rw [(gt_iff a b).2 h3] at h; cases h
/-- The parts of a Dh in their order. -/
def sortV (k : Int) (l : List ByteArray) : List ByteArray := if wrong k l then [l.getD 1 ByteArray.empty, l.getD 0 ByteArray.empty] else l
theorem sort_right (k : Int) (l : List ByteArray) : ¬ wrong k (sortV k l) := by
  unfold sortV
  by_cases h : wrong k l
  · rw [if_pos h]
    obtain ⟨h1, h2, h3⟩ := h
    rintro ⟨_, _, h4⟩
    rw [show ([l.getD 1 ByteArray.empty, l.getD 0 ByteArray.empty].getD 0 ByteArray.empty) = l.getD 1 ByteArray.empty from rfl, show ([l.getD 1 ByteArray.empty, l.getD 0 ByteArray.empty].getD 1 ByteArray.empty) = l.getD 0 ByteArray.empty from rfl, gt_asym h3] at h4
    cases h4
  · rw [if_neg h]; exact h
theorem sort_len (k : Int) (l : List ByteArray) : (sortV k l).length = l.length := by
  unfold sortV
  split
  · rename_i h
    rw [h.2.1]; rfl
  · rfl
theorem sort_mem (k : Int) (l : List ByteArray) (p : ByteArray) : p ∈ sortV k l ↔ p ∈ l := by
  unfold sortV
  split
  · rename_i h
    obtain ⟨_, h2, _⟩ := h
    cases l with
    | nil => simp at h2
    | cons a r =>
      cases r with
      | nil => simp at h2
      | cons b r =>
        cases r with
        | cons c r => simp at h2
        | nil => simp [or_comm]
  · exact Iff.rfl
theorem sort_not6 {k : Int} (h : k ≠ 6) (l : List ByteArray) : sortV k l = l := by unfold sortV; rw [if_neg (by rintro ⟨a, _⟩; exact h a)]
theorem sort_two (a b : ByteArray) : sortV 6 [a, b] = sortV 6 [b, a] := by
  unfold sortV
  by_cases h : gtB a b = true
  · rw [if_pos (show wrong 6 [a, b] from ⟨rfl, rfl, h⟩), if_neg (show ¬ wrong 6 [b, a] by rintro ⟨_, _, h2⟩; rw [show gtB ([b, a].getD 0 ByteArray.empty) ([b, a].getD 1 ByteArray.empty) = gtB b a from rfl, gt_asym h] at h2; cases h2)]
    rfl
  · rw [if_neg (show ¬ wrong 6 [a, b] by rintro ⟨_, _, h2⟩; exact h h2)]
    by_cases h2 : gtB b a = true
    · rw [if_pos (show wrong 6 [b, a] from ⟨rfl, rfl, h2⟩)]; rfl
    · rw [if_neg (show ¬ wrong 6 [b, a] by rintro ⟨_, _, h3⟩; exact h2 h3)]
      rw [gt_total (a := a) (b := b) (by simpa using h) (by simpa using h2)]
theorem txt_len5 (k : Int) (n : Nat) (b : List UInt8) (l : List ByteArray) (h : 5 ≤ k) : (joinL l).length + 3 ≤ (txtL k n b l).length := by
  unfold txtL
  rw [if_neg (by omega), if_neg (by omega), if_neg (by omega)]
  simp only [List.length_cons, List.length_append, List.length_nil]
  omega
theorem join_mem (l : List ByteArray) (p : ByteArray) (h : p ∈ l) : p.size ≤ (joinL l).length := by
  induction l with
  | nil => cases h
  | cons a r ih =>
    have hsz : ∀ a : ByteArray, a.data.toList.length = a.size := fun _ => rfl
    cases r with
    | nil => rw [List.mem_singleton.1 h, joinL, hsz]; exact Nat.le_refl _
    | cons b r =>
      rw [joinL, List.length_append, List.length_cons, hsz]
      rcases List.mem_cons.1 h with h | h
      · rw [h]; omega
      · have := ih h; omega
theorem isT_parse (s : ByteArray) (h : s.size ≤ 65536) : isT s.data.toList ↔ ∃ nd, parseV s = some nd := by
  rw [parse_list, if_neg (by omega)]
  have hsz : s.data.toList.length = s.size := rfl
  constructor
  · intro hT
    obtain ⟨nd, hon⟩ := isT_on hT
    have := hon [] (2 * s.size + 2) (.inl rfl) (by omega)
    rw [List.append_nil] at this
    rw [this]
    exact ⟨nd, rfl⟩
  · rintro ⟨nd, h⟩
    unfold whole at h
    split at h
    · rename_i hq
      obtain ⟨x, e, hx, _⟩ := isT_of hq
      rw [List.append_nil] at e
      rw [e]; exact hx
    · cases h
/-- The text of a term, if there is one. -/
noncomputable def makeV (k : Int) (n : Nat) (b : List UInt8) (l : List ByteArray) : ByteArray :=
  if 1 ≤ k ∧ k ≤ 11 ∧ (numberedV k = true → allowedV k n = true) ∧ fitsV k l.length = true ∧ (∀ p ∈ l, (parseV p).isSome = true) ∧ (txtL k n b (sortV k l)).length ≤ 65536 then bytesOf (txtL k n b (sortV k l)) else ByteArray.empty
theorem parse_size {s : ByteArray} {nd : Nd} (h : parseV s = some nd) : s.size ≤ 65536 := by
  unfold parseV at h
  split at h
  · cases h
  · omega
theorem some_isT {p : ByteArray} (h : (parseV p).isSome = true) : isT p.data.toList := by
  obtain ⟨nd, h⟩ := Option.isSome_iff_exists.1 h
  exact (isT_parse p (parse_size h)).2 ⟨nd, h⟩
theorem bytesOf_size (l : List UInt8) : (bytesOf l).size = l.length := by
  show l.toArray.size = l.length
  simp
theorem fits4 {k : Int} (h1 : 1 ≤ k) (h4 : k ≤ 4) (l : List ByteArray) : fitsV k l.length = true ↔ l = [] := by
  rcases (show k = 1 ∨ k = 2 ∨ k = 3 ∨ k = 4 by omega) with rfl | rfl | rfl | rfl
  all_goals
    simp only [fitsV, leastV, mostV]
    cases l with
    | nil => simp
    | cons a r => simp <;> try omega
/-- The text of a kind, whose parts are terms, as a term. -/
theorem parse_txt (k : Int) (n : Nat) (b : List UInt8) (l : List ByteArray) (h1 : 1 ≤ k) (h11 : k ≤ 11) (hn : n < 18446744073709551616) (hT : ∀ p ∈ l, (parseV p).isSome = true) (h4 : k ≤ 4 → l = []) :
    parseV (bytesOf (txtL k n b l)) = if okV k n l ∧ (txtL k n b l).length ≤ 65536 then some (k, (if numberedV k = true then n else 0), (if k = 4 then b else []), l) else none := by
  rw [parse_list, bytesOf_size]
  by_cases hlen : (txtL k n b l).length ≤ 65536
  · rw [if_neg (by omega)]
    show whole (rdL _ none (txtL k n b l)) = _
    by_cases hk : k ≤ 4
    · have hl := h4 hk
      subst hl
      rw [rd_txt4 k n b [] _ h1 hk hn (by omega)]
      have hok : okV k n [] ↔ (numberedV k = true → allowedV k n = true) := by
        unfold okV
        constructor
        · exact fun h => h.1
        · exact fun h => ⟨h, (fits4 h1 hk []).2 rfl, by rintro ⟨_, h, _⟩; simp at h⟩
      by_cases ha : (numberedV k = true → allowedV k n = true)
      · rw [if_pos ha, if_pos (show okV k n [] ∧ (txtL k n b []).length ≤ 65536 from ⟨hok.2 ha, hlen⟩)]; rfl
      · rw [if_neg ha, if_neg (show ¬ (okV k n [] ∧ (txtL k n b []).length ≤ 65536) by rintro ⟨h, _⟩; exact ha (hok.1 h))]; rfl
    · rw [rd_txt5 k n b l _ (by omega) h11 hn (fun p hp => some_isT (hT p hp)) (Nat.le_refl _)]
      by_cases ha : okV k n l
      · rw [if_pos ha, if_pos (show okV k n l ∧ (txtL k n b l).length ≤ 65536 from ⟨ha, hlen⟩), if_neg (show ¬ k = 4 by omega)]; rfl
      · rw [if_neg ha, if_neg (show ¬ (okV k n l ∧ (txtL k n b l).length ≤ 65536) by rintro ⟨h, _⟩; exact ha h)]; rfl
  · rw [if_pos (by omega), if_neg (by rintro ⟨_, h⟩; exact hlen h)]
/-- What is made is read. -/
theorem make_read {k : Int} {n : Nat} {b : List UInt8} {l : List ByteArray} (hn : n < 18446744073709551616) (h : makeV k n b l ≠ ByteArray.empty) :
    parseV (makeV k n b l) = some (k, (if numberedV k = true then n else 0), (if k = 4 then b else []), sortV k l) := by
  unfold makeV at h ⊢
  split at h
  · rename_i hc
    obtain ⟨h1, h2, h3, h4, h5, h6⟩ := hc
    rw [if_pos ⟨h1, h2, h3, h4, h5, h6⟩]
    rw [parse_txt k n b (sortV k l) h1 h2 hn (fun p hp => h5 p ((sort_mem k l p).1 hp)) (fun hk => by rw [sort_not6 (by omega)]; exact (fits4 h1 hk l).1 h4)]
    rw [if_pos ⟨⟨h3, by rw [sort_len]; exact h4, sort_right k l⟩, h6⟩]
  · exact absurd rfl h
theorem bytes_ne {l : List UInt8} (h : l ≠ []) : bytesOf l ≠ ByteArray.empty := by
  intro e
  have := bytesOf_size l
  rw [e] at this
  cases l with
  | nil => exact h rfl
  | cons a r => simp at this
theorem txt_ne (k : Int) (n : Nat) (b : List UInt8) (l : List ByteArray) : txtL k n b l ≠ [] := by unfold txtL; simp
/-- What is read is made anew of what it was read as. -/
theorem read_make {s : ByteArray} {k : Int} {n : Nat} {b : List UInt8} {l : List ByteArray} (h : parseV s = some (k, n, b, l)) :
    makeV k n b l = s ∧ 1 ≤ k ∧ k ≤ 11 ∧ fitsV k l.length = true ∧ n < 18446744073709551616 ∧ (numberedV k = false → n = 0) ∧ (k ≠ 4 → b = []) ∧ (∀ p ∈ l, (parseV p).isSome = true) ∧ (∀ p ∈ l, p.size ≤ s.size) ∧ ¬ wrong k l := by
  have hs := parse_size h
  rw [parse_list, if_neg (by omega)] at h
  have hq : rdL (2 * s.size + 2) none s.data.toList = some ((k, n, b, l), []) := by
    unfold whole at h
    split at h
    · rename_i hq
      simp only [Option.some.injEq] at h
      rw [hq, h]
    · cases h
  obtain ⟨h1, h2, h3, h4, h5, h6, h7, h8, h9⟩ := rd_back _ _ _ _ _ _ hq
  have hsz : s.data.toList.length = s.size := rfl
  have hsm : ∀ p ∈ l, p.size ≤ s.size := by
    intro p hp
    by_cases hk : k ≤ 4
    · rw [h8 hk] at hp; cases hp
    · have a := join_mem l p hp
      have b := txt_len5 k n b l (by omega)
      rw [← h1] at b
      omega
  have hps : ∀ p ∈ l, (parseV p).isSome = true := by
    intro p hp
    obtain ⟨nd, e⟩ := (isT_parse p (by have := hsm p hp; omega)).1 (h9 p hp)
    rw [e]; rfl
  have hsort : sortV k l = l := by unfold sortV; rw [if_neg h4.2.2]
  refine ⟨?_, h2, h3, h4.2.1, h5, h6, h7, hps, hsm, h4.2.2⟩
  unfold makeV
  rw [hsort, if_pos ⟨h2, h3, h4.1, h4.2.1, hps, by rw [← h1]; omega⟩, ← h1]
  exact bytesOf_data s
end
section
open Go.RowKit Go.Deep

def openT (t key : ByteArray) (n : Nat) (v : ByteArray) : ByteArray × Int := match parseV t with
  | some (k, m, _, l) => if k ≠ 10 then (ByteArray.empty, 3) else if l.getD 0 ByteArray.empty = key ∧ m = n ∧ l.getD 2 ByteArray.empty = v then (l.getD 1 ByteArray.empty, 0) else (ByteArray.empty, 8)
  | none => (ByteArray.empty, 3)
/-- The texts of a slice, as cells. -/
theorem rd_strs {w : World} {N : List Nat} {A : Option Addr} {n cap : Nat} {l : List ByteArray} (h : Rd w N (.slice A n cap) (strs l)) (h0 : 0 < l.length) :
    ∃ g o, A = some ⟨g, o, none⟩ ∧ n = l.length ∧ ∀ i, i < l.length → w.cell? ⟨g, o + i, none⟩ = some (.string (l.getD i ByteArray.empty)) := by
  obtain ⟨h1, _, _, h2⟩ := h.at_
  have key : ∀ i, i < l.length → (strs l)[i]? = some (.string (l.getD i ByteArray.empty)) := by
    intro i hi
    simp [strs, List.getElem?_eq_getElem hi]
  obtain ⟨g, o, hA, _, _, _⟩ := h2 0 _ (key 0 h0)
  refine ⟨g, o, hA, by rw [h1, strs_length], fun i hi => ?_⟩
  obtain ⟨g', o', hA', _, _, hc⟩ := h2 i _ (key i hi)
  rw [hA] at hA'
  injection hA' with hA'
  injection hA' with e1 e2
  subst e1 e2
  exact hc
end
section
open Go.RowKit Go.Deep

theorem get_txt {l : List ByteArray} {i : Nat} (hi : i < l.length) : (strs l)[i]? = some (.string (l.getD i ByteArray.empty)) := by simp [strs, List.getElem?_eq_getElem hi]
end
section
open Go.RowKit Go.Deep

theorem bd_size : ∃ j, Tryz.prog.info? 299 = some j ∧ j.size = 2 := Option.map_eq_some_iff.1 (show (Tryz.prog.info? 299).map (·.size) = some 2 by kernel_rfl)

set_option maxRecDepth 100000 in
set_option maxHeartbeats 1000000 in
theorem bd_check_used (b : Nat) (w : World) (h0 : w.cell? ⟨b, 0, none⟩ = some (.pointer (some ⟨b, 0, none⟩))) :
    Calls Tryz.prog 236 #[.pointer (some ⟨b, 0, none⟩)] w fun e w' => e = .returned (.tuple #[]) ∧ w' = w := by
  obtain ⟨j, hj, _⟩ := bd_size
  go_enter Tryz.func236, Tryz.ntmps236
  go_wp2
  rw [Lib.run_neq_ptr_same w _ Tryz.underlying297 hj]
  go_wp2
  go_end0
  exact ⟨rfl, rfl⟩

set_option maxRecDepth 100000 in
set_option maxHeartbeats 1000000 in
theorem bd_check_fresh (b : Nat) (w : World) (h0 : w.cell? ⟨b, 0, none⟩ = some (.pointer none)) (hsh : w.shape? b = some (299, 2)) (hfz : w.frozen? ⟨b, 0, none⟩ = false) :
    Calls Tryz.prog 236 #[.pointer (some ⟨b, 0, none⟩)] w fun e w' => e = .returned (.tuple #[]) ∧ w' = w.setCell ⟨b, 0, none⟩ (.pointer (some ⟨b, 0, none⟩)) := by
  obtain ⟨j, hj, hjs⟩ := bd_size
  go_enter Tryz.func236, Tryz.ntmps236
  go_wp2
  rw [Lib.run_to_unsafe w ⟨b, 0, none⟩ Tryz.underlying297 Tryz.underlying332 hj (by rw [hjs]; decide) hsh (Nat.zero_lt_succ 1)]
  simp only [Result.andThen]
  rw [Oper.upon_value]
  go_wp2
  rw [run_callFunc_extern Tryz.func248 (by kernel_rfl) (by kernel_rfl) (by kernel_rfl) (e := Extern.AbiNoEscape.same) (by kernel_rfl)]
  rw [Lib.run_noEscape]
  simp only [Result.andThen]
  rw [Oper.upon_value]
  go_wp2
  rw [Lib.run_from_unsafe w ⟨b, 0, none⟩ Tryz.underlying332 Tryz.underlying297 hj hsh (by kernel_rfl)]
  simp only [Result.andThen]
  rw [Oper.upon_value]
  go_wp2
  go_end0
  exact ⟨rfl, rfl⟩

theorem bd_check (B b : Nat) (bs : List Value) (w : World) (h : Lib.IsBuilder 299 5 B b bs w) :
    Calls Tryz.prog 236 #[.pointer (some ⟨b, 0, none⟩)] w fun e w' => e = .returned (.tuple #[]) ∧ (Lib.BuilderAt 299 5 B b (.pointer (some ⟨b, 0, none⟩)) bs w' ∧ Below B w w') := by
  rcases h with h | h
  · refine (bd_check_fresh b w h.cell0 h.shape h.frozen0).mono ?_
    rintro e w' ⟨rfl, rfl⟩
    exact ⟨rfl, h.used _, (Below.refl B w).setCell (p := ⟨b, 0, none⟩) h.1 _⟩
  · refine (bd_check_used b w h.cell0).mono ?_
    rintro e w' ⟨rfl, rfl⟩
    exact ⟨rfl, h, Below.refl B _⟩

theorem bd_lt {b : Nat} {w : World} {o : Obj} (h : w.heap[b]? = some o) : b < w.heap.size := by
  rcases Nat.lt_or_ge b w.heap.size with h' | h'
  · exact h'
  · simp [Array.getElem?_eq_none h'] at h

set_option maxRecDepth 100000 in
set_option maxHeartbeats 2000000 in
theorem write_byte (B b : Nat) (bs : List Value) (c : Int) (w : World) (h : Lib.IsBuilder 299 5 B b bs w) (hlen : bs.length + 1 ≤ 140737488355328) (hBw : B ≤ w.heap.size) :
    Calls Tryz.prog 230 #[.pointer (some ⟨b, 0, none⟩), .int .u8 c] w fun e w' => e = .returned .nilIface ∧ (Lib.IsBuilder 299 5 B b (bs ++ [.int .u8 c]) w' ∧ Below B w w') := by
  obtain ⟨i0, hi, hz0, hz1, hz2⟩ := info_parts (show (Tryz.prog.info? 5).map (fun i => (i.zero, i.size, i.bytes)) = some (some (.int .u8 0), 1, 1) by kernel_rfl)
  go_enter Tryz.func230, Tryz.ntmps230
  go_wp2_with (go_at_call 236; refine (bd_check B b bs _ h).mono ?_)
  rintro e w1 ⟨rfl, h1, hb1⟩
  obtain ⟨hB, v, hbk, hown, hne⟩ := h1
  have c0 : w1.cell? ⟨b, 0, none⟩ = some (.pointer (some ⟨b, 0, none⟩)) := by rw [Lib.cell_of_heap hbk]; rfl
  have c1 : w1.cell? ⟨b, 1, none⟩ = some v := by rw [Lib.cell_of_heap hbk]; rfl
  go_wp2_with (at_builtin; refine wpList_append_own _ rfl _ _ 37 rfl B 5 i0 (.int .u8 0) 1 1 Tryz.underlying37 hi hz0 hz1 hz2 rfl (by decide) _ _ _ rfl (hown.alloc _) ⟨w1.heap.size, 0, none⟩ 1 1 [.int .u8 c] rfl rfl ?c1 ?c2 ?c3 ?c4 ?c5 ?_)
  case c1 =>
    intro j u hj
    match j, hj with
    | 0, hj => simp at hj; subst hj; simp [Addr.add]
  case c2 => intro u hu; simp at hu; subst hu; rfl
  case c3 => unfold maxLen; omega
  case c4 => omega
  case c5 => have := hb1.size; simp; omega
  intro v' w2 hown' hgrow _
  have hlt : b < w1.heap.size := bd_lt hbk
  have hb2 : w2.heap[b]? = some (.cells #[.pointer (some ⟨b, 0, none⟩), v] 299 (0, 0)) := by
    rw [hgrow.block b (by simp; omega) (fun e => hne e.symm), Lib.alloc_old w1 _ b hlt]
    exact hbk
  have d0 : w2.cell? ⟨b, 0, none⟩ = some (.pointer (some ⟨b, 0, none⟩)) := by rw [Lib.cell_of_heap hb2]; rfl
  have d1 : w2.cell? ⟨b, 1, none⟩ = some v := by rw [Lib.cell_of_heap hb2]; rfl
  have f1 : w2.frozen? ⟨b, 1, none⟩ = false := Lib.frozen_of_heap hb2 1
  obtain ⟨g, cap, rfl⟩ : ∃ g cap, v' = .slice (some ⟨g, 0, none⟩) (bs.length + 1) cap := by
    rcases hown'.2 with ⟨_, h0⟩ | ⟨g, cap, cur, hv, _⟩
    · omega
    · exact ⟨g, cap, hv⟩
  go_wp2
  go_ret
  refine ⟨rfl, ?_, ?_⟩
  · exact .inr (Lib.BuilderAt.put (T := 299) (e := 5) hB hb2 (bs' := bs ++ [.int .u8 c]) (by simpa using hown') (by decide))
  · exact ((hb1.alloc (by have := hb1.size; omega) _).grown hgrow (by have := hb1.size; simp; omega) (fun k hk => (hown.lt k hk).1)).setCell (p := ⟨b, 1, none⟩) hB _

set_option maxRecDepth 100000 in
set_option maxHeartbeats 2000000 in
theorem write_string (B b : Nat) (bs : List Value) (s : ByteArray) (w : World) (h : Lib.IsBuilder 299 5 B b bs w) (hlen : bs.length + s.size ≤ 140737488355328) (hBw : B ≤ w.heap.size) :
    Calls Tryz.prog 203 #[.pointer (some ⟨b, 0, none⟩), .string s] w fun e w' => e = .returned (.tuple #[.int .i64 s.size, .nilIface]) ∧ (Lib.IsBuilder 299 5 B b (bs ++ Lib.strCells s) w' ∧ Below B w w') := by
  obtain ⟨i0, hi, hz0, hz1, hz2⟩ := info_parts (show (Tryz.prog.info? 5).map (fun i => (i.zero, i.size, i.bytes)) = some (some (.int .u8 0), 1, 1) by kernel_rfl)
  go_enter Tryz.func203, Tryz.ntmps203
  go_wp2_with (go_at_call 236; refine (bd_check B b bs _ h).mono ?_)
  rintro e w1 ⟨rfl, h1, hb1⟩
  obtain ⟨hB, v, hbk, hown, hne⟩ := h1
  have c0 : w1.cell? ⟨b, 0, none⟩ = some (.pointer (some ⟨b, 0, none⟩)) := by rw [Lib.cell_of_heap hbk]; rfl
  have c1 : w1.cell? ⟨b, 1, none⟩ = some v := by rw [Lib.cell_of_heap hbk]; rfl
  go_wp2_with (at_builtin; refine Lib.wpList_append_own_string _ rfl _ _ 37 9 rfl B 5 i0 Tryz.underlying37 Tryz.underlying9 hi hz0 hz1 hz2 _ _ _ rfl hown s rfl ?c3 ?c4 ?c5 ?_)
  case c3 => unfold maxLen; omega
  case c4 => omega
  case c5 => have := hb1.size; omega
  intro v' w2 hown' hgrow _
  have hlt : b < w1.heap.size := bd_lt hbk
  have hb2 : w2.heap[b]? = some (.cells #[.pointer (some ⟨b, 0, none⟩), v] 299 (0, 0)) := by
    rw [hgrow.block b hlt (fun e => hne e.symm)]
    exact hbk
  have d0 : w2.cell? ⟨b, 0, none⟩ = some (.pointer (some ⟨b, 0, none⟩)) := by rw [Lib.cell_of_heap hb2]; rfl
  have d1 : w2.cell? ⟨b, 1, none⟩ = some v := by rw [Lib.cell_of_heap hb2]; rfl
  have f1 : w2.frozen? ⟨b, 1, none⟩ = false := Lib.frozen_of_heap hb2 1
  obtain ⟨ao, n', cap, rfl⟩ : ∃ ao n' cap, v' = .slice ao n' cap := by
    rcases hown'.2 with ⟨hv, _⟩ | ⟨g, cap, cur, hv, _⟩
    · exact ⟨_, _, _, hv⟩
    · exact ⟨_, _, _, hv⟩
  go_wp2
  go_ret2
  refine ⟨rfl, ?_, ?_⟩
  · exact .inr (Lib.BuilderAt.put (T := 299) (e := 5) hB hb2 (bs' := bs ++ Lib.strCells s) (by simpa [Lib.strCells_length] using hown') (by decide))
  · exact (hb1.grown hgrow (by have := hb1.size; omega) (fun k hk => (hown.lt k hk).1)).setCell (p := ⟨b, 1, none⟩) hB _
end
section
open Go.RowKit Go.Deep Go.Maps Go.WideMaps

def letL : List (Int × Int) := [(1, 48), (2, 97), (3, 110), (4, 120), (5, 112), (6, 100), (7, 104), (8, 107), (9, 109), (10, 115), (11, 108)]
def letD : DataW Unit := letL.foldl (fun D p => D.put (.int .i64 p.1) (.lit (.int .u8 p.2))) (.map [])

/-- A literal's entry at the operation (the kit's law wpList_mapUpdate_own serves a statement's store). -/
theorem wpList_insert_own {H : Type} {P : Program} (w : World) {ops : Array Oper} {rest : List Oper} {o : Oper} {a : Act} {Q : Exit → Act → World → Prop}
    (hg : o.guard = none) (m x v : Operand) (t : TypeId) (hop : o.op = Op.insert t m x v)
    (k e : TypeId) (K : Keyed P k) (ht : P.underlying t = some (.map k e)) (R : Value → Option (DataW H × List MemPlace)) (b n : Nat) (D : DataW H)
    (hm : a.eval m = .map (some b)) (hown : w.ownsMap P k R b n D) (hn : n < maxLen) (key val : Value) (kl : Lit) (hx : a.eval x = key) (hv : a.eval v = val) (hkey : keyOf P k key = some kl)
    (d : DataW H) (ps : List MemPlace) (hval : R val = some (d, ps))
    (hK : ∀ w', w'.ownsMap P k R b (n + 1) (D.put kl d) → w.grownBy w' (some b) → wpList P ops Q rest (a.put o.dst undef) w') :
    wpList P ops Q (o :: rest) a w := by
  refine wpList_plain hg fun K' hK' => ?_
  obtain ⟨w', hrun, r1, r2⟩ := hown.update K ht hn hkey hval
  unfold Oper.wp
  simp [execOp, hop, hm, hx, hv, hrun, Result.andThen]
  exact hK' _ _ (hK w' r1 r2)

set_option maxRecDepth 100000 in
set_option maxHeartbeats 3200000 in
theorem letter_any (k : Int) (hk : (Lit.int .i64 k).wf = true) (w : World) : Calls Tryz.prog 184 #[.int .i64 k] w fun e w' => ∃ c, e = .returned (.int .u8 c) ∧ letD.atKey (.int .i64 k) (.lit (.int .u8 0)) = .lit (.int .u8 c) ∧ Only [] w w' := by
  have hmm := @run_makeMap Tryz.prog
  have hown : (w.alloc (.map #[] 0)).ownsMap Tryz.prog 3 (plainElem (H := Unit) Tryz.prog 5) w.heap.size 0 (.map []) := World.ownsMap_made _ _ _ _
  have HO := hide ((Only.refl [] w).alloc (.map #[] 0))
  go_enter Tryz.func184, Tryz.ntmps184
  go_wp2_with (first
    | (refine wpList_insert_own _ rfl _ _ _ 315 rfl 3 5 (int_keyed Tryz.underlying3) Tryz.underlying315 _ w.heap.size _ _ rfl hown (by unfold maxLen; omega) _ _ _ rfl rfl (keyOf_int_mk Tryz.underlying3 (by decide)) _ [] (plainElem_int Tryz.underlying5 (by decide)) ?_; intro w1 hown1 hgrow1; have HO := hide (HO.out.grown hgrow1 (fun j hj => .inr (by cases hj; exact Nat.le_refl _))); have hown := hown1; clear hown1 hgrow1)
    | (at_lookup; refine wpList_lookup_own_int _ rfl _ _ 315 rfl 3 5 .u8 (int_keyed Tryz.underlying3) Tryz.underlying315 Tryz.underlying5 (by kernel_rfl) w.heap.size _ _ rfl hown _ _ rfl (keyOf_int_mk Tryz.underlying3 hk) ?_; intro c hat _))
  go_ret
  exact ⟨c, rfl, hat, HO.out⟩
theorem letter_atom (w : World) : Calls Tryz.prog 184 #[.int .i64 2] w fun e w' => e = .returned (.int .u8 97) ∧ Only [] w w' :=
  (letter_any 2 (by decide) w).mono fun e w' ⟨c, he, hat, ho⟩ => by
    have h2 : letD.atKey (.int .i64 2) (.lit (.int .u8 0)) = .lit (.int .u8 97) := by rfl
    rw [h2] at hat
    injection hat with h3
    injection h3 with _ h4
    subst h4
    exact ⟨he, ho⟩
end
section
open Go.RowKit Go.Deep

abbrev IsB (B b : Nat) (bs : List Value) (w : World) : Prop := Lib.IsBuilder 299 5 B b bs w
theorem bd_only {B b : Nat} {bs : List Value} {w w' : World} (h : IsB B b bs w) (ho : Only [] w w') : IsB B b bs w' := by
  rcases h with h | h
  · obtain ⟨hB, v, hb, hown, hne⟩ := h
    exact .inl ⟨hB, v, (ho.block b (bd_lt hb) (by simp)).trans hb, own_only hown ho (by simp), hne⟩
  · obtain ⟨hB, v, hb, hown, hne⟩ := h
    exact .inr ⟨hB, v, (ho.block b (bd_lt hb) (by simp)).trans hb, own_only hown ho (by simp), hne⟩
theorem only_of_below {w w' : World} (h : Below w.heap.size w w') : Only [] w w' := ⟨h.os, h.tape, h.output, h.size, fun k hk _ => h.block k hk⟩
theorem below_of_only {B : Nat} {w w' : World} (h : Only [] w w') (hB : B ≤ w.heap.size) : Below B w w' := h.below (fun x hx => by cases hx) hB
theorem cells_text (l : List UInt8) : [] ++ [Value.int .u8 97] ++ Lib.strCells ⟨l.toArray⟩ = Lib.byteCells (97 :: l) := by
  simp [Lib.byteCells, Lib.strCells]

set_option maxRecDepth 100000 in
set_option maxHeartbeats 3200000 in
theorem join_atom (n : Nat) (hn : n < 18446744073709551616) (vb vl : Value) (w : World) (htab : Tab w) :
    Calls Tryz.prog 188 #[.int .u8 97, .int .i64 2, .int .u64 n, vb, vl] w (StrPost (97 :: Lib.decDigits n) w) := by
  have hdl := dec_len n hn
  have HB := hide (show IsB w.heap.size w.heap.size [] (w.alloc (.cells #[.pointer none, .slice none 0 0] 299)) from Lib.fresh_isBuilder _ _ _)
  have HC := hide (show Below w.heap.size w (w.alloc (.cells #[.pointer none, .slice none 0 0] 299)) from below_of_only ((Only.refl [] w).alloc _) (Nat.le_refl _))
  have HT := hide htab
  have HN := hide hn
  clear htab hn
  go_enter Tryz.func188, Tryz.ntmps188
  go_wp2_with (first
    | (go_at_call 230; refine (write_byte w.heap.size w.heap.size _ _ _ HB.out (by simp) HC.out.size).mono ?_; rintro e w1 ⟨rfl, h1, hb1⟩; have HC := hide (HC.out.trans hb1); have HB := hide h1; clear h1 hb1)
    | (go_at_call 170; refine (print_any n HN.out _ (HT.out.only (only_of_below HC.out) (by simp))).mono ?_; rintro e w2 ⟨rfl, ho⟩; have HB := hide (bd_only HB.out ho); have HC := hide (HC.out.trans (below_of_only ho HC.out.size)); clear ho)
    | (go_at_call 203; refine (write_string w.heap.size w.heap.size _ _ _ HB.out (by simp [ByteArray.size]; omega) HC.out.size).mono ?_; rintro e w3 ⟨rfl, h1, hb1⟩; have HC := hide (HC.out.trans hb1); have HB := hide h1; clear h1 hb1)
    | (go_at_call 204; refine (Tryz.Builder_String_any w.heap.size w.heap.size (97 :: Lib.decDigits n) _ (cells_text (Lib.decDigits n) ▸ HB.out) HC.out.size).mono ?_; rintro e w4 ⟨rfl, hb1⟩; have HC := hide (HC.out.trans hb1); clear hb1))
  go_ret
  exact strpost rfl (only_of_below HC.out)
end
section
open Go.RowKit Go.Deep

theorem bc_push (bs : List UInt8) (c : UInt8) : Lib.byteCells bs ++ [Value.int .u8 (c.toNat : Int)] = Lib.byteCells (bs ++ [c]) := by simp [Lib.byteCells]
theorem bc_string (bs l : List UInt8) : Lib.byteCells bs ++ Lib.strCells ⟨l.toArray⟩ = Lib.byteCells (bs ++ l) := by simp [Lib.byteCells, Lib.strCells]
theorem bc_len (bs : List UInt8) : (Lib.byteCells bs).length = bs.length := by simp [Lib.byteCells]
theorem isb_eq {B b : Nat} {bs cs : List Value} {w : World} (h : IsB B b bs w) (e : bs = cs) : IsB B b cs w := e ▸ h
end
end Go.Proofs.YtcokjoidpnfjhaaGreatDoor

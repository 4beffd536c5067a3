/-
  Walks and plain words (texts Rfc, Rfd, Rfe). No condition beyond those that each theorem states.
-/
import Derived.Lib.Bytealg
import Derived.Test.YthecnaclfhfilaaDoorA06
namespace Go.Proofs.YthecnaclfhfilaaDoor
section
open Go.RowKit Go.Shelf
attribute [local go_sem] Oper.semAt_some

/-- A text's parts between bytes c. -/
def splitL (c : UInt8) : List UInt8 → List (List UInt8)
  | [] => [[]]
  | b :: l => if b = c then [] :: splitL c l else match splitL c l with
    | [] => [[b]]
    | p :: r => (b :: p) :: r
theorem split_ne (c : UInt8) : ∀ l, splitL c l ≠ []
  | [] => by simp [splitL]
  | b :: l => by
    unfold splitL
    split
    · simp
    · split <;> simp
theorem split_cons {b c : UInt8} {l : List UInt8} (hb : ¬ b = c) : splitL c (b :: l) = match splitL c l with
    | [] => [[b]]
    | p :: r => (b :: p) :: r := by rw [splitL, if_neg hb]
theorem split_none {c : UInt8} : ∀ {l : List UInt8}, Lib.indexByte l c < 0 → splitL c l = [l]
  | [], _ => rfl
  | b :: l, h => by
    unfold Lib.indexByte at h
    by_cases hb : b = c
    · subst hb; simp at h
    · rw [if_neg (by simpa using hb)] at h
      have hl : Lib.indexByte l c < 0 := by
        by_cases h1 : Lib.indexByte l c = -1
        · omega
        · rw [if_neg (by simpa using h1)] at h; omega
      rw [split_cons hb, split_none hl]
theorem split_some {c : UInt8} : ∀ {l : List UInt8} {i : Nat}, Lib.indexByte l c = (i : Int) → i < l.length ∧ splitL c l = l.take i :: splitL c (l.drop (i + 1))
  | [], i, h => by simp [Lib.indexByte] at h
  | b :: l, i, h => by
    unfold Lib.indexByte at h
    by_cases hb : b = c
    · subst hb
      rw [if_pos (by simp)] at h
      obtain rfl : i = 0 := by omega
      exact ⟨by simp, by simp [splitL]⟩
    · rw [if_neg (by simpa using hb)] at h
      by_cases h1 : Lib.indexByte l c = -1
      · rw [if_pos (by rw [h1]; rfl)] at h; omega
      · rw [if_neg (by simpa using h1)] at h
        obtain ⟨j, rfl⟩ : ∃ j, i = j + 1 := ⟨i - 1, by have := Lib.indexByte_ge l c; omega⟩
        obtain ⟨h2, h3⟩ := split_some (c := c) (l := l) (i := j) (by omega)
        refine ⟨by simp; omega, ?_⟩
        rw [split_cons hb, h3]
        simp
def splitB (c : UInt8) (s : ByteArray) : List ByteArray := (splitL c s.data.toList).map fun l => ⟨l.toArray⟩
theorem splitB_none {c : UInt8} {s : ByteArray} (h : Lib.indexByte s.data.toList c < 0) : splitB c s = [s] := by
  unfold splitB
  rw [split_none h]
  simp
theorem ext_list (s : ByteArray) (a b : Nat) : (s.extract a b).data.toList = (s.data.toList.take b).drop a := by
  rw [ByteArray.data_extract, Array.toList_extract, List.extract_eq_take_drop, List.drop_take]
theorem splitB_some {c : UInt8} {s : ByteArray} {i : Nat} (h : Lib.indexByte s.data.toList c = (i : Int)) : i < s.size ∧ splitB c s = s.extract 0 i :: splitB c (s.extract (i + 1) s.size) := by
  obtain ⟨h1, h2⟩ := split_some h
  have hs : s.data.toList.length = s.size := rfl
  refine ⟨by omega, ?_⟩
  unfold splitB
  rw [h2, List.map_cons, ext_list]
  congr 1
  · apply ByteArray.ext
    apply Array.ext'
    rw [ext_list]; simp
  · congr 2
    rw [List.take_of_length_le (by omega)]
def keep3 (b : Nat) (W W' : World) : Prop := ∀ k o, b ≤ k → k ≤ b + 2 → W.heap[k]? = some o → W'.heap[k]? = some o
/-- What is left of the text, by its box. -/
def leftS (b : Nat) (W : World) : Nat := match W.cell? ⟨b, 0, none⟩ with
  | some (.string r) => r.size
  | _ => 0
theorem left_eq {b : Nat} {W : World} {r : ByteArray} (h : Blk W b 9 #[.string r]) : leftS b W = r.size := by
  unfold leftS
  rw [h.cell 0]
  rfl
theorem splitSeq_any (w : World) (s t : ByteArray) : Calls Tryd.prog 20 #[.string s, .string t] w fun e w' => e = .returned (.func (.func 49) #[] #[.pointer (some ⟨w.heap.size + 1, 0, none⟩), .pointer (some ⟨w.heap.size, 0, none⟩), .pointer (some ⟨w.heap.size + 2, 0, none⟩)]) ∧
    w' = ((w.alloc (.cells #[.string s] 9)).alloc (.cells #[.string t] 9)).alloc (.cells #[.int .i64 0] 3) := by
  go_enter Tryd.func20, Tryd.ntmps20
  go_wp2
  go_ret
  exact ⟨rfl, rfl⟩
set_option maxRecDepth 100000 in
set_option maxHeartbeats 3200000 in
theorem split_seq (n b : Nat) (c : UInt8) (s : ByteArray) (hs : s.size ≤ 1000000) : SeqP n Tryd.prog 49 #[.pointer (some ⟨b + 1, 0, none⟩), .pointer (some ⟨b, 0, none⟩), .pointer (some ⟨b + 2, 0, none⟩)] (fun x : ByteArray => #[.string x]) (keep3 b) (fun xs => xs = splitB c s) (fun pre => pre <+: splitB c s) [b]
    (fun W => Blk W b 9 #[.string s] ∧ Blk W (b + 1) 9 #[.string ⟨#[c]⟩] ∧ Blk W (b + 2) 3 #[.int .i64 0]) := by
  intro l J Jx W hJ hJx hY h0 ⟨hA, hB, hC⟩
  have HY := hide hY
  have HJ := hide hJ
  have HA := hide hA
  have HB := hide hB
  have HC := hide hC
  have HI := hide (fun (r : ByteArray) W => callsIn_wide (n := n - 1).2 (Tryd.strings_Index_one r c W))
  have hJ0 := h0
  have k1 := HB.out.cell 0
  simp at k1
  clear hY hA hB hC hJ h0
  refine callsIn_of_wp Tryd.func49 rfl trivial ?_ rfl
  simp only [Tryd.ntmps49, List.size_toArray, List.length_cons, List.length_nil, Nat.reduceAdd, Nat.reduceSub, Array.replicate_succ, Array.replicate_zero, List.push_toArray, List.append_toArray, List.nil_append, List.cons_append]
  gi_wp2
  gi_loopw [7] (fun v wr => ∃ (pre : List ByteArray) (r : ByteArray), r.size ≤ 1000000 ∧ pre ++ splitB c r = splitB c s ∧ J pre wr ∧ Hid (Blk wr b 9 #[.string r]) ∧ Hid (Blk wr (b + 1) 9 #[.string ⟨#[c]⟩]) ∧ Hid (Blk wr (b + 2) 3 #[.int .i64 0])) (fun _ wr => leftS b wr)
  case atStart => exact ⟨[], s, hs, rfl, hJ0, HA, HB, HC⟩
  case round =>
    clear HA HB HC k1 hJ0
    obtain ⟨pre, r, hr, hp, hj, HA, HB, HC⟩ := hrel
    have k0 := HA.out.cell 0
    have k1 := HB.out.cell 0
    have k2 := HC.out.cell 0
    simp at k0 k1 k2
    have HIr := hide (HI.out r)
    have hge := Lib.indexByte_ge r.data.toList c
    by_cases hneg : Lib.indexByte r.data.toList c < 0
    · have hsp := splitB_none hneg
      rw [hsp] at hp
      generalize Lib.indexByte r.data.toList c = i at *
      obtain ⟨fn, tmps, assign, body, hy, hR⟩ := HY.out pre r wr hj ⟨[], by rw [List.append_nil]; exact hp⟩
      gi_wp2_with (refine ⟨trivial, (fun h => absurd h (by decide)), ?_⟩; gi_at_call 38; refine (HIr.out wr).mono ?_; rintro e w1 ⟨rfl, rfl⟩)
      refine ⟨(fun h => absurd h (by decide)), hR.mono ?_⟩
      rintro e W3 (⟨rfl, hJ3, hk3⟩ | ⟨rfl, hJx3⟩)
      · gi_wp2
        go_end0
        rw [hp] at hJ3
        exact ⟨⟨_, rfl⟩, .inl ⟨_, rfl, hJ3⟩⟩
      · gi_wp2
        go_end0
        exact ⟨⟨_, rfl⟩, .inr ⟨pre ++ [r], ⟨[], by rw [List.append_nil]; exact hp⟩, hJx3⟩⟩
    · obtain ⟨i, hi⟩ : ∃ i : Nat, Lib.indexByte r.data.toList c = (i : Int) := ⟨(Lib.indexByte r.data.toList c).toNat, by omega⟩
      obtain ⟨hlt, hsp⟩ := splitB_some hi
      rw [hsp] at hp
      rw [hi] at HIr
      clear hi hneg hge
      obtain ⟨fn, tmps, assign, body, hy, hR⟩ := HY.out pre (r.extract 0 i) wr hj ⟨splitB c (r.extract (i + 1) r.size), by rw [← hp]; simp⟩
      gi_wp2_with (refine ⟨trivial, (fun h => absurd h (by decide)), ?_⟩; gi_at_call 38; refine (HIr.out wr).mono ?_; rintro e w1 ⟨rfl, rfl⟩)
      refine ⟨(fun h => absurd h (by decide)), hR.mono ?_⟩
      rintro e W3 (⟨rfl, hJ3, hk3⟩ | ⟨rfl, hJx3⟩)
      · have hA3 : Blk W3 b 9 #[.string r] := hk3 b _ (Nat.le_refl _) (by omega) HA.out
        have hB3 : Blk W3 (b + 1) 9 #[.string ⟨#[c]⟩] := hk3 (b + 1) _ (by omega) (by omega) HB.out
        have hC3 : Blk W3 (b + 2) 3 #[.int .i64 0] := hk3 (b + 2) _ (by omega) (by omega) HC.out
        have hLE := left_eq HA.out
        have HA3 := hide hA3
        have HB3 := hide hB3
        have HC3 := hide hC3
        have k0 := hA3.cell 0
        have k1 := hB3.cell 0
        have rf := hA3.frozen
        simp at k0 k1
        clear hA3 hB3 hC3
        gi_wp2
        go_roundw
        case rel => exact ⟨pre ++ [r.extract 0 i], r.extract (i + 1) r.size, by rw [ByteArray.size_extract]; omega, by rw [← hp]; simp, HJ.out _ _ _ hJ3 ((Only.refl [b] W3).setCell (p := ⟨b, 0, none⟩) (.inl (by simp)) _), hide (HA3.out.set_ 0 _), hide (HB3.out.far (p := ⟨b, 0, none⟩) (by simp) _), hide (HC3.out.far (p := ⟨b, 0, none⟩) (by simp) _)⟩
        case measure => rw [left_eq (HA3.out.set_ 0 _), hLE, ByteArray.size_extract]; omega
      · gi_wp2
        refine bodyPost_ret (results_none rfl _ _ _) rfl ?_
        exact ⟨⟨_, rfl⟩, .inr ⟨pre ++ [r.extract 0 i], ⟨splitB c (r.extract (i + 1) r.size), by rw [← hp]; simp⟩, hJx3⟩⟩
end
section
open Go.RowKit Go.Shelf
attribute [local go_sem] Oper.semAt_some

theorem split_size (c : UInt8) : ∀ (l p : List UInt8), p ∈ splitL c l → p.length ≤ l.length
  | [], p, h => by simp [splitL] at h; simp [h]
  | b :: l, p, h => by
    by_cases hb : b = c
    · unfold splitL at h
      rw [if_pos hb] at h
      rcases List.mem_cons.1 h with h | h
      · simp [h]
      · have := split_size c l p h; simp; omega
    · rw [split_cons hb] at h
      cases hs : splitL c l with
      | nil => exact absurd hs (split_ne c l)
      | cons q r =>
        rw [hs] at h
        simp only at h
        rcases List.mem_cons.1 h with h | h
        · have := split_size c l q (by rw [hs]; simp)
          rw [h]; simp; omega
        · have := split_size c l p (by rw [hs]; simp [h])
          simp; omega
theorem split_count (c : UInt8) : ∀ l : List UInt8, (splitL c l).length ≤ l.length + 1
  | [] => by simp [splitL]
  | b :: l => by
    have ih := split_count c l
    by_cases hb : b = c
    · unfold splitL; rw [if_pos hb]; simp; omega
    · rw [split_cons hb]
      cases hs : splitL c l with
      | nil => simp
      | cons q r => rw [hs] at ih; simp at ih ⊢; omega
theorem splitB_size {c : UInt8} {s x : ByteArray} {pre : List ByteArray} (h : pre ++ [x] <+: splitB c s) : x.size ≤ s.size ∧ pre.length ≤ s.size := by
  obtain ⟨suf, h⟩ := h
  have hx : x ∈ splitB c s := by rw [← h]; simp
  have hl := congrArg List.length h
  have hc := split_count c s.data.toList
  have hs : s.data.toList.length = s.size := rfl
  have hn : (splitB c s).length = (splitL c s.data.toList).length := by unfold splitB; simp
  rw [List.length_append, List.length_append, List.length_singleton] at hl
  obtain ⟨p, hp, rfl⟩ := List.mem_map.1 hx
  exact ⟨split_size c _ p hp, by omega⟩
theorem rd_addr {w : World} {N : List Nat} {A : Option Addr} {n cap : Nat} {xs : List Value} (h : Rd w N (.slice A n cap) xs) (h0 : xs ≠ []) : ∃ ad, A = some ad ∧ ∀ j u, xs[j]? = some u → w.cell? (ad.add j) = some u := by
  obtain ⟨A', c, hv, _, _, h⟩ := h
  injection hv with e1 _ _
  subst e1
  rcases h with h | ⟨g, o, hA, _, _, hc⟩
  · exact absurd h h0
  · exact ⟨_, hA, fun j u hu => by rw [add_mk]; exact hc j u hu⟩
theorem run_loadVar_slice {P : Program} (w : World) (g : Nat) (t ty e : TypeId) (v : Value) (hg : Blk w g t #[v]) (hu : P.underlying ty = some (.slice e)) : (loadVar ty ⟨g, 0, none⟩).run P w = .ok v w := by
  have hc := hg.cell 0
  simp at hc
  simp [loadVar, isAgg, run_underlying hu, go_sem, hc, load, Sem.run, Result.andThen]
theorem run_loadVar_int {P : Program} (w : World) (g : Nat) (t ty : TypeId) (k : IntKind) (v : Value) (hg : Blk w g t #[v]) (hu : P.underlying ty = some (.int k)) : (loadVar ty ⟨g, 0, none⟩).run P w = .ok v w := by
  have hc := hg.cell 0
  simp at hc
  simp [loadVar, isAgg, run_underlying hu, go_sem, hc, load, Sem.run, Result.andThen]
theorem results_two_boxes {P : Program} {fn : Func} {p q : Tmp} {ty ty2 e : TypeId} {k : IntKind} (h : fn.results = #[.cell p ty, .cell q ty2]) (tmps : Array Value) (w : World) (g g2 : Nat) (t t2 : TypeId) (v v2 : Value)
    (hp : tmps.getD p undef = .pointer (some ⟨g, 0, none⟩)) (hq : tmps.getD q undef = .pointer (some ⟨g2, 0, none⟩)) (hg : Blk w g t #[v]) (hg2 : Blk w g2 t2 #[v2])
    (hu : P.underlying ty = some (.slice e)) (hu2 : P.underlying ty2 = some (.int k)) : (results fn tmps).run P w = .ok (.tuple #[v, v2]) w := by
  have hp' : tmps[p]?.getD undef = .pointer (some ⟨g, 0, none⟩) := by simpa using hp
  have hq' : tmps[q]?.getD undef = .pointer (some ⟨g2, 0, none⟩) := by simpa using hq
  simp [results, h, hp', hq', asAddr, run_loadVar_slice w g t ty e v hg hu, run_loadVar_int w g2 t2 ty2 k v2 hg2 hu2]
theorem ints_byts_append (l m : List UInt8) : ints .u8 (byts l) ++ ints .u8 (byts m) = ints .u8 (byts (l ++ m)) := by simp [ints, byts]
theorem only_inL {w a b : World} {qs : List Nat} (h : Only [] w a) (k : Only qs a b) (hq : ∀ x ∈ qs, w.heap.size ≤ x) : Only [] w b :=
  ((h.mono (S' := qs) (by simp)).trans k).mono (fun x hx => .inr (hq x hx))
/-- How Read's boxes stand between two parts: the results' boxes as they were made, the bytes so far. -/
structure RdAt (w : World) (B : Nat) (l : List UInt8) (W : World) : Prop where
  r : Blk W B 23 #[.slice none 0 0]
  c : Blk W (B + 1) 24 #[.int .i64 0]
  o : ∃ v, Blk W (B + 2) 23 #[v] ∧ W.ownsRow (B + 8) 5 1 v l.length (ints .u8 (byts l))
  on : Only [] w W
/-- How they stand when a part was none. -/
structure RdNo (w : World) (B : Nat) (W : World) : Prop where
  r : Blk W B 23 #[.slice none 0 0]
  c : Blk W (B + 1) 24 #[.int .i64 3]
  on : Only [] w W
theorem RdAt.stab {w A A' : World} {B : Nat} {l : List UInt8} (hB : w.heap.size = B) (h : RdAt w B l A) (ho : Only ((B + 6) :: (B + 6 + 1) :: [B + 3]) A A') (hk : keepC [B + 3] A A') : RdAt w B l A' := by
  obtain ⟨v, ho1, ho2, ho3⟩ := h.o
  refine ⟨hk _ _ (by simp) h.r rfl, hk _ _ (by simp) h.c rfl, ⟨v, hk _ _ (by simp) ho1 rfl, ho2, ?_⟩, only_inL h.on ho (by simp; omega)⟩
  rcases ho3 with h3 | ⟨g, cap, cur, rfl, hg, hh, h3⟩
  · exact .inl h3
  · exact .inr ⟨g, cap, cur, rfl, hg, hk _ _ (by simp; omega) hh rfl, h3⟩
theorem RdNo.stab {w A A' : World} {B : Nat} (hB : w.heap.size = B) (h : RdNo w B A) (ho : Only ((B + 6) :: (B + 6 + 1) :: [B + 3]) A A') (hk : keepC [B + 3] A A') : RdNo w B A' :=
  ⟨hk _ _ (by simp) h.r rfl, hk _ _ (by simp) h.c rfl, only_inL h.on ho (by simp; omega)⟩
end
section
open Go.RowKit Go.Shelf
attribute [local go_sem] Oper.semAt_some

/-- A part of two bytes. -/
def okC (p : ByteArray) : Prop := (hexR p.data.toList).2 = 0 ∧ (hexR p.data.toList).1.length = 2
instance (p : ByteArray) : Decidable (okC p) := by unfold okC; infer_instance
def outC (l : List ByteArray) : List UInt8 := l.flatMap fun p => (hexR p.data.toList).1
/-- What is read of a text with colons. -/
def readCol (s : ByteArray) : List UInt8 × Nat := if (∀ p ∈ splitB 58 s, okC p) ∧ (outC (splitB 58 s)).length = 16 then (outC (splitB 58 s), 0) else ([], 3)
theorem outC_len : ∀ {l : List ByteArray}, (∀ p ∈ l, okC p) → (outC l).length = 2 * l.length
  | [], _ => rfl
  | a :: l, h => by
    have ih := outC_len (l := l) (fun p hp => h p (List.mem_cons_of_mem _ hp))
    have ha := (h a List.mem_cons_self).2
    unfold outC at ih ⊢
    rw [List.flatMap_cons, List.length_append, ih, ha, List.length_cons]
    omega
theorem keep3_trans {b : Nat} {A B C : World} (h : keep3 b A B) (k : keep3 b B C) : keep3 b A C := fun i o h1 h2 h3 => k i o h1 h2 (h i o h1 h2 h3)
theorem keep3_put {b : Nat} (W : World) (l : Nat) (o : Obj) (h : b + 2 < l) : keep3 b W (W.putObj l o) := fun _ _ _ h2 hb => (World.putObj_heap_other (by omega)).trans hb
theorem own_only2 {S : List Nat} {w w' : World} {base e size n : Nat} {v : Value} {xs : List Value} (h : w.ownsRow base e size v n xs) (ho : Only S w w') (hS : ∀ x ∈ S, ¬ v.ownBlock = some x) : w'.ownsRow base e size v n xs := by
  obtain ⟨h1, h2⟩ := h
  refine ⟨h1, ?_⟩
  rcases h2 with h2 | ⟨g, cap, cur, rfl, hg, hh, h3⟩
  · exact .inl h2
  · exact .inr ⟨g, cap, cur, rfl, hg, (ho.block g (Blk.lt (t := e) (cs := cur) hh) (fun hx => hS g hx rfl)).trans hh, h3⟩
set_option maxRecDepth 100000 in
set_option maxHeartbeats 12800000 in
theorem read_col (w : World) (s : ByteArray) (hs : s.size ≤ 1000000) (hcol : decide (0 ≤ Lib.indexByte s.data.toList 58) = true) : Calls Tryd.prog 6 #[.string s] w (BytsPost (readCol s) w) := by
  obtain ⟨i0, hi, hz0, hz1, hz2⟩ := info_parts info_u8a
  have HCT := hide (fun W => callsIn_wide (n := 5 - 1).2 (Tryd.strings_Contains_one s 58 W))
  rw [hcol] at HCT
  clear hcol
  refine (callsIn_wide (n := 5)).1 ?_
  refine callsIn_of_wp_marks Tryd.func6 rfl trivial ?_ rfl
  simp only [Tryd.ntmps6, List.size_toArray, List.length_cons, List.length_nil, Nat.reduceAdd, Nat.reduceSub, Array.replicate_succ, Array.replicate_zero, List.push_toArray, List.append_toArray, List.nil_append, List.cons_append]
  gi_wp2_with (first
    | (refine ⟨trivial, ?_⟩; gi_at_call 19; refine (HCT.out _).mono ?_; rintro e w1 ⟨rfl, rfl⟩)
    | (refine ⟨trivial, ?_⟩; gi_at_call 20; refine (callsIn_wide.2 (splitSeq_any _ _ _)).mono ?_; rintro e w2 ⟨rfl, rfl⟩))
  clear HCT
  simp only [Nat.add_assoc, Nat.reduceAdd, World.size_alloc]
  have HO := hide (show Only [] w ((((((w.alloc (.cells #[.slice none 0 0] 23)).alloc (.cells #[.int .i64 0] 24)).alloc (.cells #[.slice none 0 0] 23)).alloc (.cells #[.string s] 9)).alloc (.cells #[.string ⟨#[58]⟩] 9)).alloc (.cells #[.int .i64 0] 3)) from ((((((Only.refl [] w).alloc _).alloc _).alloc _).alloc _).alloc _).alloc _)
  have HR := hide ((((((Blk.new w 23 #[.slice none 0 0]).alloc (.cells #[.int .i64 0] 24)).alloc (.cells #[.slice none 0 0] 23)).alloc (.cells #[.string s] 9)).alloc (.cells #[.string ⟨#[58]⟩] 9)).alloc (.cells #[.int .i64 0] 3))
  have HC := hide (((((Blk.new (w.alloc (.cells #[.slice none 0 0] 23)) 24 #[.int .i64 0]).alloc (.cells #[.slice none 0 0] 23)).alloc (.cells #[.string s] 9)).alloc (.cells #[.string ⟨#[58]⟩] 9)).alloc (.cells #[.int .i64 0] 3))
  have HU := hide ((((Blk.new ((w.alloc (.cells #[.slice none 0 0] 23)).alloc (.cells #[.int .i64 0] 24)) 23 #[.slice none 0 0]).alloc (.cells #[.string s] 9)).alloc (.cells #[.string ⟨#[58]⟩] 9)).alloc (.cells #[.int .i64 0] 3))
  have HS := hide (((Blk.new (((w.alloc (.cells #[.slice none 0 0] 23)).alloc (.cells #[.int .i64 0] 24)).alloc (.cells #[.slice none 0 0] 23)) 9 #[.string s]).alloc (.cells #[.string ⟨#[58]⟩] 9)).alloc (.cells #[.int .i64 0] 3))
  have HP := hide ((Blk.new ((((w.alloc (.cells #[.slice none 0 0] 23)).alloc (.cells #[.int .i64 0] 24)).alloc (.cells #[.slice none 0 0] 23)).alloc (.cells #[.string s] 9)) 9 #[.string ⟨#[58]⟩]).alloc (.cells #[.int .i64 0] 3))
  have HZ := hide (Blk.new (((((w.alloc (.cells #[.slice none 0 0] 23)).alloc (.cells #[.int .i64 0] 24)).alloc (.cells #[.slice none 0 0] 23)).alloc (.cells #[.string s] 9)).alloc (.cells #[.string ⟨#[58]⟩] 9)) 3 #[.int .i64 0])
  have HSZ := hide (show ((((((w.alloc (.cells #[.slice none 0 0] 23)).alloc (.cells #[.int .i64 0] 24)).alloc (.cells #[.slice none 0 0] 23)).alloc (.cells #[.string s] 9)).alloc (.cells #[.string ⟨#[58]⟩] 9)).alloc (.cells #[.int .i64 0] 3)).heap.size = w.heap.size + 6 from by simp only [World.size_alloc, Nat.add_assoc, Nat.reduceAdd])
  simp only [World.size_alloc, Nat.add_assoc, Nat.reduceAdd] at HR HC HU HS HP HZ
  generalize ((((((w.alloc (.cells #[.slice none 0 0] 23)).alloc (.cells #[.int .i64 0] 24)).alloc (.cells #[.slice none 0 0] 23)).alloc (.cells #[.string s] 9)).alloc (.cells #[.string ⟨#[58]⟩] 9)).alloc (.cells #[.int .i64 0] 3)) = w6 at *
  obtain ⟨B, hB⟩ : ∃ B, B = w.heap.size := ⟨_, rfl⟩
  rw [← hB] at HR HC HU HS HP HZ HSZ ⊢
  have HB := hide hB.symm
  have HBW := hide (show w.heap.size ≤ B from Nat.le_of_eq hB.symm)
  clear hB
  have HAT := hide (show RdAt w B [] w6 from ⟨HR.out, HC.out, ⟨_, HU.out, World.ownsRow_nil _ _ _ _⟩, HO.out⟩)
  refine range_priv (Kp := keep3 (B + 3)) (gf := 49) (lb := #[.pointer (some ⟨B + 4, 0, none⟩), .pointer (some ⟨B + 3, 0, none⟩), .pointer (some ⟨B + 5, 0, none⟩)]) rfl (enters_of Tryd.func49 (by kernel_rfl) rfl) (split_seq _ (B + 3) 58 s hs) (by have := HSZ.out; simp; omega) (fun W h => ⟨HS.out.only h (by simp), HP.out.only h (by simp), HZ.out.only h (by simp)⟩) (fun _ => rfl) keep3_trans (fun W l o' hl => keep3_put W l o' (by have := HSZ.out; omega))
    (fun pre W => (∀ p ∈ pre, okC p) ∧ RdAt w B (outC pre) W)
    (fun c pre W => c = .ret ∧ (∃ p ∈ pre, ¬ okC p) ∧ RdNo w B W)
    (fun t X Y h ho hk => ⟨h.1, h.2.stab HB.out (by rw [HSZ.out] at ho; exact ho) hk⟩)
    (fun c t X Y h ho hk => ⟨h.1, h.2.1, h.2.2.stab HB.out (by rw [HSZ.out] at ho; exact ho) hk⟩)
    ⟨by simp, HAT.out⟩
    (fun x => { tmps := #[.string s, undef, .pointer (some ⟨B, 0, none⟩), .pointer (some ⟨B + 1, 0, none⟩), .pointer (some ⟨B + 2, 0, none⟩), .string x, undef, undef, undef, undef, undef, .string s, .bool true, .string s, .func (.func 49) #[] #[.pointer (some ⟨B + 4, 0, none⟩), .pointer (some ⟨B + 3, 0, none⟩), .pointer (some ⟨B + 5, 0, none⟩)], .string x, undef, undef, undef, undef, undef, undef, undef, undef, undef, undef, undef, undef, undef, undef, undef, undef, undef, undef, undef, undef, undef, undef, undef, undef, undef, undef, undef, undef, undef, undef, undef, undef, undef, undef, undef, undef, undef, undef, undef, undef, undef, undef], defers := [] }) ?assign ?body ?done ?stop
  case assign =>
    intro x W K hK
    gi_wp2
    exact hK
  case body =>
    rintro pre x W ⟨hok, hat⟩ hsp hD ⟨R, hL⟩
    rw [HSZ.out] at hD hL ⊢
    obtain ⟨hxs, hpl⟩ := splitB_size hsp
    obtain ⟨hr, hc, ⟨v, hu, hown⟩, hon⟩ := hat
    have hD8 : B + 8 ≤ W.heap.size := (Array.getElem?_eq_some_iff.1 hL).1
    obtain ⟨Av, cv, rfl, _, _⟩ := own_form hown
    have HRk := hide hr
    have HCk := hide hc
    have HUk := hide hu
    have HOk := hide hown
    have HNk := hide hon
    have HDk := hide hD
    have HLk := hide hL
    have HOK := hide hok
    have HK := hide (Only.refl [] W)
    have HLEN := hide (outC_len hok)
    have HPL := hide (show pre.length ≤ 1000000 by omega)
    have HRH := hide (fun W => callsIn_wide (n := 5 - 1 - 1 - 1).2 (num_readhex W x (by omega)))
    have HNO := hide (show ¬ okC x → ¬ okC x from id)
    have HOX := hide (show okC x ↔ (hexR x.data.toList).2 = 0 ∧ (hexR x.data.toList).1.length = 2 from Iff.rfl)
    have HOUT := hide (show outC (pre ++ [x]) = outC pre ++ (hexR x.data.toList).1 from by simp [outC])
    clear hok hsp hr hc hu hown hon hD hL hxs hpl
    generalize hexR x.data.toList = rr at *
    obtain ⟨b, cd⟩ := rr
    unfold BytsPost at HRH
    simp only at HRH HOX HOUT
    by_cases hcd : cd = 0
    · subst hcd
      simp only [show ((0 : Nat) : Int) = 0 from rfl] at HRH
      by_cases hb2 : b.length = 2
      · have HYES := hide (HOX.out.2 ⟨rfl, hb2⟩)
        have HB2 := hide hb2
        clear hb2
        gi_wp2_with (first
          | (refine ⟨trivial, ?_⟩; gi_at_call 21; refine (CallsIn.inRound _ (HRH.out _)).mono ?_; rintro e w3 ⟨v3, rfl, ho, hrd⟩; have HV3 := hide (hrd [] (by simp)); obtain ⟨A3, c3, rfl, _, _⟩ := HV3.out.formb; replace HRk := hide (HRk.out.only ho (by simp)); replace HCk := hide (HCk.out.only ho (by simp)); replace HUk := hide (HUk.out.only ho (by simp)); replace HOk := hide (own_only HOk.out ho (by simp)); replace HNk := hide (HNk.out.trans ho); replace HK := hide (HK.out.trans ho); have u0 := HUk.out.cell 0; have r0 := HRk.out.cell 0; have c0 := HCk.out.cell 0; simp at u0 r0 c0; have rf := HRk.out.frozen; have cf := HCk.out.frozen; have uf := HUk.out.frozen; rw [HB2.out] at HV3 ⊢; obtain ⟨ad, rfl, hcells⟩ := rd_addr HV3.out (by intro e; have h := congrArg List.length e; rw [ints_length, byts_length, HB2.out] at h; cases h); have HCE := hide hcells; clear hrd ho hcells)
          | (gi_at_builtin; refine wpListIn_append_own _ rfl _ _ 23 rfl (B + 8) 5 i0 (.int .u8 0) 1 1 Tryd.underlying23 hi hz0 hz1 hz2 rfl (by decide) (.slice Av (outC pre).length cv) (outC pre).length _ rfl HOk.out ad 2 c3 (ints .u8 (byts b)) rfl (by rw [ints_length, byts_length, HB2.out]) HCE.out (by intro u hu; simp [ints] at hu; obtain ⟨z, _, rfl⟩ := hu; rfl) (by have := HLEN.out; have := HPL.out; unfold maxLen; omega) (by have := HLEN.out; have := HPL.out; omega) (by have := HK.out.size; omega) ?_; intro v4 w4 hown4 hg4 _; have HO4 := hide hown4; obtain ⟨A4, c4, rfl, _, _⟩ := own_form hown4; have HG := hide (show Only (Value.slice Av (outC pre).length cv).ownBlock.toList w3 w4 from (Only.refl _ w3).grown hg4 (fun k hk => .inl (by simpa using hk))); have HGE := hide (show ∀ z ∈ (Value.slice Av (outC pre).length cv).ownBlock.toList, B + 8 ≤ z from fun z hz => own_block_ge HOk.out (by simpa using hz)); replace HUk := hide (HUk.out.only HG.out (fun h => by have := HGE.out _ h; omega)); replace HRk := hide (HRk.out.only HG.out (fun h => by have := HGE.out _ h; omega)); replace HCk := hide (HCk.out.only HG.out (fun h => by have := HGE.out _ h; omega)); have uf4 := HUk.out.frozen; have u4 := HUk.out.cell 0; simp at u4; clear hown4 hg4))
        have hq : ∀ k, k < B + 8 → k ≠ B + 2 → (w4.setCell ⟨B + 2, 0, none⟩ (.slice A4 ((outC pre).length + 2) c4)).heap[k]? = W.heap[k]? := fun k h1 h2 =>
          (Below.heap_setCell _ ⟨B + 2, 0, none⟩ _ k (by simpa using h2)).trans ((HG.out.block k (by have := HK.out.size; omega) (fun h => by have := HGE.out _ h; omega)).trans (HK.out.block k (by omega) (by simp)))
        refine ⟨⟨hq _ (by omega) (by omega), hq _ (by omega) (by omega)⟩, fun k o h1 h2 h3 => (hq k (by omega) (by omega)).trans h3, ?_, ?_⟩
        · intro p hp
          rcases List.mem_append.1 hp with hp | hp
          · exact HOK.out p hp
          · obtain rfl : p = x := by simpa using hp
            exact HYES.out
        · refine ⟨HRk.out.far (p := ⟨B + 2, 0, none⟩) (by simp) _, HCk.out.far (p := ⟨B + 2, 0, none⟩) (by simp) _, ⟨_, HUk.out.set_ 0 _, ?_⟩, (only_inL HNk.out HG.out (fun z hz => by have := HGE.out _ hz; have := HBW.out; omega)).setCell (p := ⟨B + 2, 0, none⟩) (.inr (show w.heap.size ≤ B + 2 from by have := HBW.out; omega)) _⟩
          rw [HOUT.out, List.length_append, HB2.out, ← ints_byts_append]
          exact own_only HO4.out ((Only.refl [B + 2] w4).setCell (p := ⟨B + 2, 0, none⟩) (.inl (by simp)) _) (by simp)
      · have hbb : ((b.length : Int) != 2) = true := by rw [bne_iff_ne]; omega
        replace HNO := hide (HNO.out (fun h => hb2 (HOX.out.1 h).2))
        clear hb2
        gi_wp2_with (refine ⟨trivial, ?_⟩; gi_at_call 21; refine (CallsIn.inRound _ (HRH.out _)).mono ?_; rintro e w3 ⟨v3, rfl, ho, hrd⟩; have HV3 := hide (hrd [] (by simp)); obtain ⟨A3, c3, rfl, _, _⟩ := HV3.out.formb; replace HRk := hide (HRk.out.only ho (by simp)); replace HCk := hide (HCk.out.only ho (by simp)); replace HUk := hide (HUk.out.only ho (by simp)); replace HOk := hide (own_only HOk.out ho (by simp)); replace HNk := hide (HNk.out.trans ho); replace HK := hide (HK.out.trans ho); have u0 := HUk.out.cell 0; have r0 := HRk.out.cell 0; have c0 := HCk.out.cell 0; simp at u0 r0 c0; have rf := HRk.out.frozen; have cf := HCk.out.frozen; have uf := HUk.out.frozen; clear hrd ho)
        have hb7 : ∀ k, k ≠ B → k ≠ B + 1 → k < W.heap.size → ((w3.setCell ⟨B, 0, none⟩ (.slice none 0 0)).setCell ⟨B + 1, 0, none⟩ (.int .i64 3)).heap[k]? = W.heap[k]? := fun k h1 h2 h3 =>
          (Below.heap_setCell _ ⟨B + 1, 0, none⟩ _ k (by simpa using h2)).trans ((Below.heap_setCell _ ⟨B, 0, none⟩ _ k (by simpa using h1)).trans (HK.out.block k h3 (by simp)))
        refine ⟨⟨hb7 _ (by omega) (by omega) (by omega), hb7 _ (by omega) (by omega) (by omega)⟩, rfl, ⟨x, by simp, HNO.out⟩, ⟨(HRk.out.set_ 0 _).far (p := ⟨B + 1, 0, none⟩) (by simp) _, (HCk.out.far (p := ⟨B, 0, none⟩) (by simp) _).set_ 0 _, (HNk.out.setCell (p := ⟨B, 0, none⟩) (.inr HBW.out) _).setCell (p := ⟨B + 1, 0, none⟩) (.inr (Nat.le_succ_of_le HBW.out)) _⟩⟩
    · have hbb : ((cd : Int) != 0) = true := by rw [bne_iff_ne]; omega
      replace HNO := hide (HNO.out (fun h => hcd (HOX.out.1 h).1))
      clear hcd
      gi_wp2_with (refine ⟨trivial, ?_⟩; gi_at_call 21; refine (CallsIn.inRound _ (HRH.out _)).mono ?_; rintro e w3 ⟨v3, rfl, ho, hrd⟩; have HV3 := hide (hrd [] (by simp)); obtain ⟨A3, c3, rfl, _, _⟩ := HV3.out.formb; replace HRk := hide (HRk.out.only ho (by simp)); replace HCk := hide (HCk.out.only ho (by simp)); replace HUk := hide (HUk.out.only ho (by simp)); replace HOk := hide (own_only HOk.out ho (by simp)); replace HNk := hide (HNk.out.trans ho); replace HK := hide (HK.out.trans ho); have u0 := HUk.out.cell 0; have r0 := HRk.out.cell 0; have c0 := HCk.out.cell 0; simp at u0 r0 c0; have rf := HRk.out.frozen; have cf := HCk.out.frozen; have uf := HUk.out.frozen; clear hrd ho)
      have hb7 : ∀ k, k ≠ B → k ≠ B + 1 → k < W.heap.size → ((w3.setCell ⟨B, 0, none⟩ (.slice none 0 0)).setCell ⟨B + 1, 0, none⟩ (.int .i64 3)).heap[k]? = W.heap[k]? := fun k h1 h2 h3 =>
        (Below.heap_setCell _ ⟨B + 1, 0, none⟩ _ k (by simpa using h2)).trans ((Below.heap_setCell _ ⟨B, 0, none⟩ _ k (by simpa using h1)).trans (HK.out.block k h3 (by simp)))
      refine ⟨⟨hb7 _ (by omega) (by omega) (by omega), hb7 _ (by omega) (by omega) (by omega)⟩, rfl, ⟨x, by simp, HNO.out⟩, ⟨(HRk.out.set_ 0 _).far (p := ⟨B + 1, 0, none⟩) (by simp) _, (HCk.out.far (p := ⟨B, 0, none⟩) (by simp) _).set_ 0 _, (HNk.out.setCell (p := ⟨B, 0, none⟩) (.inr HBW.out) _).setCell (p := ⟨B + 1, 0, none⟩) (.inr (Nat.le_succ_of_le HBW.out)) _⟩⟩
  case done =>
    rintro xs W rfl ⟨hok, hat⟩ hD
    rw [HSZ.out] at hD ⊢
    obtain ⟨hr, hc, ⟨v, hu, hown⟩, hon⟩ := hat
    obtain ⟨Av, cv, rfl, _, _⟩ := own_form hown
    have HRk := hide hr
    have HCk := hide hc
    have HUk := hide hu
    have HOk := hide hown
    have HNk := hide hon
    have HDk := hide hD
    have u0 := HUk.out.cell 0
    have r0 := HRk.out.cell 0
    have c0 := HCk.out.cell 0
    simp at u0 r0 c0
    have rf := HRk.out.frozen
    have cf := HCk.out.frozen
    have HVAL := hide (show (outC (splitB 58 s)).length = 16 → readCol s = (outC (splitB 58 s), 0) from fun h => if_pos ⟨hok, h⟩)
    have HVNO := hide (show ¬ (outC (splitB 58 s)).length = 16 → readCol s = ([], 3) from fun h => if_neg (fun h2 => h h2.2))
    clear hr hc hu hown hon hD hok
    generalize outC (splitB 58 s) = L at *
    by_cases hlen : L.length = 16
    · have HV := hide (HVAL.out hlen)
      rw [hlen] at u0 HUk HOk
      clear hlen HVAL HVNO
      gi_wp2
      have hD4 : ((W.setCell ⟨B, 0, none⟩ (.slice Av 16 cv)).setCell ⟨B + 1, 0, none⟩ (.int .i64 0)).heap[B + 6]? = some (.deferred (some [])) :=
        (Below.heap_setCell _ ⟨B + 1, 0, none⟩ _ (B + 6) (by simp)).trans ((Below.heap_setCell _ ⟨B, 0, none⟩ _ (B + 6) (by simp)).trans HDk.out)
      refine ⟨by simp, .inl ⟨_, _, rfl, run_takeDeferred hD4, ?_⟩⟩
      have HR2 : Blk ((W.setCell ⟨B, 0, none⟩ (.slice Av 16 cv)).setCell ⟨B + 1, 0, none⟩ (.int .i64 0)) B 23 #[.slice Av 16 cv] := (HRk.out.set_ 0 _).far (p := ⟨B + 1, 0, none⟩) (by simp) _
      have HC2 : Blk ((W.setCell ⟨B, 0, none⟩ (.slice Av 16 cv)).setCell ⟨B + 1, 0, none⟩ (.int .i64 0)) (B + 1) 24 #[.int .i64 0] := (HCk.out.far (p := ⟨B, 0, none⟩) (by simp) _).set_ 0 _
      have HO2 := ((HNk.out.setCell (p := ⟨B, 0, none⟩) (.inr HBW.out) (.slice Av 16 cv)).setCell (p := ⟨B + 1, 0, none⟩) (.inr (Nat.le_succ_of_le HBW.out)) (.int .i64 0))
      have HW2 := own_only (own_only HOk.out ((Only.refl [B] W).setCell (p := ⟨B, 0, none⟩) (.inl (by simp)) (.slice Av 16 cv)) (by simp)) ((Only.refl [B + 1] _).setCell (p := ⟨B + 1, 0, none⟩) (.inl (by simp)) (.int .i64 0)) (by simp)
      generalize ((W.setCell ⟨B, 0, none⟩ (.slice Av 16 cv)).setCell ⟨B + 1, 0, none⟩ (.int .i64 0)) = w7 at *
      have hp := only_put w7 (B + 6) (.deferred none)
      rw [HV.out]
      exact ⟨_, results_two_boxes rfl _ _ _ _ _ _ _ _ rfl rfl (HR2.only hp (by simp)) (HC2.only hp (by simp)) Tryd.underlying23 Tryd.underlying24,
        ⟨_, rfl, only_inL HO2 hp (by have := HBW.out; simp; omega), fun N hN => (Rd.of_own (own_only2 HW2 hp (fun x hx hx2 => by
          obtain rfl : x = B + 6 := by simpa using hx
          have := own_block_ge HW2 hx2
          omega)) (fun x hx => by have := hN x hx; have := HB.out; omega)).1⟩⟩
    · have HV := hide (HVNO.out hlen)
      have hlb : ((L.length : Int) != 16) = true := by rw [bne_iff_ne]; omega
      clear hlen HVAL HVNO
      generalize L.length = q at *
      gi_wp2
      have hD4 : ((W.setCell ⟨B, 0, none⟩ (.slice none 0 0)).setCell ⟨B + 1, 0, none⟩ (.int .i64 3)).heap[B + 6]? = some (.deferred (some [])) :=
        (Below.heap_setCell _ ⟨B + 1, 0, none⟩ _ (B + 6) (by simp)).trans ((Below.heap_setCell _ ⟨B, 0, none⟩ _ (B + 6) (by simp)).trans HDk.out)
      refine ⟨by simp, .inl ⟨_, _, rfl, run_takeDeferred hD4, ?_⟩⟩
      have HR2 : Blk ((W.setCell ⟨B, 0, none⟩ (.slice none 0 0)).setCell ⟨B + 1, 0, none⟩ (.int .i64 3)) B 23 #[.slice none 0 0] := (HRk.out.set_ 0 _).far (p := ⟨B + 1, 0, none⟩) (by simp) _
      have HC2 : Blk ((W.setCell ⟨B, 0, none⟩ (.slice none 0 0)).setCell ⟨B + 1, 0, none⟩ (.int .i64 3)) (B + 1) 24 #[.int .i64 3] := (HCk.out.far (p := ⟨B, 0, none⟩) (by simp) _).set_ 0 _
      have HO2 := ((HNk.out.setCell (p := ⟨B, 0, none⟩) (.inr HBW.out) (.slice none 0 0)).setCell (p := ⟨B + 1, 0, none⟩) (.inr (Nat.le_succ_of_le HBW.out)) (.int .i64 3))
      generalize ((W.setCell ⟨B, 0, none⟩ (.slice none 0 0)).setCell ⟨B + 1, 0, none⟩ (.int .i64 3)) = w7 at *
      have hp := only_put w7 (B + 6) (.deferred none)
      rw [HV.out]
      exact ⟨_, results_two_boxes rfl _ _ _ _ _ _ _ _ rfl rfl (HR2.only hp (by simp)) (HC2.only hp (by simp)) Tryd.underlying23 Tryd.underlying24,
        ⟨_, rfl, only_inL HO2 hp (by have := HBW.out; simp; omega), fun N _ => Rd.nil _ N⟩⟩
  case stop =>
    rintro c pre W hsp ⟨rfl, ⟨p, hp, hno⟩, hat⟩ hD
    rw [HSZ.out] at hD ⊢
    have HV := hide (show readCol s = ([], 3) from if_neg (fun h2 => hno (h2.1 p (by obtain ⟨suf, h⟩ := hsp; rw [← h]; exact List.mem_append_left _ hp))))
    gi_wp2
    refine ⟨by simp, .inl ⟨_, _, rfl, run_takeDeferred hD, ?_⟩⟩
    have hp := only_put W (B + 6) (.deferred none)
    rw [HV.out]
    exact ⟨_, results_two_boxes rfl _ _ _ _ _ _ _ _ rfl rfl (hat.r.only hp (by simp)) (hat.c.only hp (by simp)) Tryd.underlying23 Tryd.underlying24,
      ⟨_, rfl, only_inL hat.on hp (by have := HBW.out; simp; omega), fun N _ => Rd.nil _ N⟩⟩
end
end Go.Proofs.YthecnaclfhfilaaDoor

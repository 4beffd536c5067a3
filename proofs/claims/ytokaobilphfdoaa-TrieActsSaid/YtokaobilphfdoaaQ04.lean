/-
  Walks and plain words (texts Trs, Ad2, Ad5). No condition beyond those that each theorem states.
-/
import Derived.StillTailTactics
import Derived.Test.YtokaobilphfdoaaQ03
namespace Go.Proofs.Ytokaobilphfdoaa
section
open Go.RowKit Go.Deep

theorem reads_k (w : World) (e : TypeId) (cs : Array Value) (B k : Nat) (hx : cs.size = k) (hB : w.heap.size < B) : Reads (w.alloc (.cells cs e)) B k (some ⟨w.heap.size, 0, none⟩) 1 cs.toList :=
  ⟨by simp [hx], fun _ => ⟨_, rfl, hB, fun j u hu => by rw [add_mk, Nat.zero_add, (Blk.new w e cs).cell]; rwa [Array.getElem?_toList] at hu⟩⟩
theorem info_row : (Try.prog.info? 69).map (fun i => (i.zero, i.size, i.bytes)) = some (some (.agg #[.slice none 0 0, .int .i64 0, .int .i64 0]), 3, 40) := by kernel_rfl
theorem info_pfx : (Try.prog.info? 29).map (fun i => (i.zero, i.size, i.bytes)) = some (some (.agg #[.slice none 0 0, .int .i64 0]), 2, 32) := by kernel_rfl
theorem append_row {W : World} {ps : List PRw} {l : List Rw} {av v : Value} {r : Rw} {base : Nat} {N : List Nat} {ops : Array Oper} {rest : List Oper} {o : Oper} {a : Act} {Q : Exit → Act → World → Prop} (hgd : o.guard = none) (s x : Operand)
    (ho : o.op = .call { callee := .builtin .append, args := #[s, x], argTypes := #[67, 67] }) (hs : a.eval s = v) (h1 : ps.map Prod.snd = l) (hown : W.ownsRow base 69 3 v ps.length (ps.flatMap rowC))
    (h3 : ∀ p ∈ ps, Rd W (v.ownBlock.toList ++ N) p.1 (ints .u8 (byts p.2.1))) (h4 : ∀ x ∈ N, v.ownBlock ≠ some x ∧ x < W.heap.size) (hav : Rd W (v.ownBlock.toList ++ N) av (ints .u8 (byts r.1))) (hF : (rowC (av, r)).length = 3) (hone : ∀ u ∈ rowC (av, r), u.oneCell' = true)
    (hl : ps.length ≤ 1000000) (hbase : base ≤ W.heap.size) (hx : a.eval x = .slice (some ⟨W.heap.size, 0, none⟩) 1 1)
    (hK : ∀ v' w', LisIs 3 rowC 69 w' base N v' (l ++ [r]) → Only v.ownBlock.toList W w' → wpList Try.prog ops Q rest (a.put o.dst v') w') : wpList Try.prog ops Q (o :: rest) a (W.alloc (.cells (rowC (av, r)).toArray 69)) := by
  obtain ⟨i, hi, hz, hs1, hby⟩ := info_parts info_row
  have hrd := reads_k W 69 (rowC (av, r)).toArray (W.heap.size + 1) 3 (by simpa using hF) (Nat.lt_succ_self _)
  simp only at hrd
  refine wpList_append_any (P := Try.prog) _ hgd s x 67 ho base 69 i (.agg #[.slice none 0 0, .int .i64 0, .int .i64 0]) 3 40 Try.underlying67 hi hz hs1 hby rfl (by decide) v ps.length (ps.flatMap rowC) hs (hown.alloc _) (W.heap.size + 1) (some ⟨W.heap.size, 0, none⟩) 1 1 (rowC (av, r)) hx hrd hone (by unfold maxLen; omega) (by omega) (by simp; omega) ?_
  intro v' w' g1 g2 g3
  have hon : Only v.ownBlock.toList W w' := ((Only.refl _ W).alloc _).grown g2 (fun k hk => .inl (by rw [hk]; simp))
  refine hK v' w' (LisIs.snoc h1 h3 h4 hav g1 hon ?_) hon
  rcases g3 with g3 | g3
  · exact .inl g3
  · exact .inr ⟨_, g3, by simp⟩
theorem append_pfx {W : World} {ps : List PRw} {l : List Rw} {av v : Value} {r : Rw} {base : Nat} {N : List Nat} {ops : Array Oper} {rest : List Oper} {o : Oper} {a : Act} {Q : Exit → Act → World → Prop} (hgd : o.guard = none) (s x : Operand)
    (ho : o.op = .call { callee := .builtin .append, args := #[s, x], argTypes := #[64, 64] }) (hs : a.eval s = v) (h1 : ps.map Prod.snd = l) (hown : W.ownsRow base 29 2 v ps.length (ps.flatMap pfxC))
    (h3 : ∀ p ∈ ps, Rd W (v.ownBlock.toList ++ N) p.1 (ints .u8 (byts p.2.1))) (h4 : ∀ x ∈ N, v.ownBlock ≠ some x ∧ x < W.heap.size) (hav : Rd W (v.ownBlock.toList ++ N) av (ints .u8 (byts r.1))) (hF : (pfxC (av, r)).length = 2) (hone : ∀ u ∈ pfxC (av, r), u.oneCell' = true)
    (hl : ps.length ≤ 1000000) (hbase : base ≤ W.heap.size) (hx : a.eval x = .slice (some ⟨W.heap.size, 0, none⟩) 1 1)
    (hK : ∀ v' w', LisIs 2 pfxC 29 w' base N v' (l ++ [r]) → Only v.ownBlock.toList W w' → wpList Try.prog ops Q rest (a.put o.dst v') w') : wpList Try.prog ops Q (o :: rest) a (W.alloc (.cells (pfxC (av, r)).toArray 29)) := by
  obtain ⟨i, hi, hz, hs1, hby⟩ := info_parts info_pfx
  have hrd := reads_k W 29 (pfxC (av, r)).toArray (W.heap.size + 1) 2 (by simpa using hF) (Nat.lt_succ_self _)
  simp only at hrd
  refine wpList_append_any (P := Try.prog) _ hgd s x 64 ho base 29 i (.agg #[.slice none 0 0, .int .i64 0]) 2 32 Try.underlying64 hi hz hs1 hby rfl (by decide) v ps.length (ps.flatMap pfxC) hs (hown.alloc _) (W.heap.size + 1) (some ⟨W.heap.size, 0, none⟩) 1 1 (pfxC (av, r)) hx hrd hone (by unfold maxLen; omega) (by omega) (by simp; omega) ?_
  intro v' w' g1 g2 g3
  have hon : Only v.ownBlock.toList W w' := ((Only.refl _ W).alloc _).grown g2 (fun k hk => .inl (by rw [hk]; simp))
  refine hK v' w' (LisIs.snoc h1 h3 h4 hav g1 hon ?_) hon
  rcases g3 with g3 | g3
  · exact .inl g3
  · exact .inr ⟨_, g3, by simp⟩

set_option maxRecDepth 100000 in
theorem tell_rows (bo base : Nat) (N : List Nat) (l : List Rw) (r : Rw) (av : Value) (Wp W : World) (hl : l.length < 100000) (hbo : bo ∉ N) (v : Value) (hb : Blk W bo 67 #[v]) (hL : LisIs 3 rowC 69 W base (bo :: N) v l) (hbb : base ≤ W.heap.size) (hbo2 : bo < base) (hav : ∀ M : List Nat, (∀ x ∈ M, x < Wp.heap.size) → Rd W M av (ints .u8 (byts r.1))) (hlt : ∀ x ∈ v.ownBlock.toList ++ bo :: N, x < Wp.heap.size) :
    Calls Try.prog 34 #[.agg #[av, .int .i64 r.2.1, .int .i64 r.2.2], .pointer (some ⟨bo, 0, none⟩)] W fun e W' => e = .returned (.tuple #[]) ∧ (∃ v', Blk W' bo 67 #[v'] ∧ LisIs 3 rowC 69 W' base (bo :: N) v' (l ++ [r])) ∧ Only (bo :: v.ownBlock.toList) W W' := by
  obtain ⟨ps, h1, h2, h3, h4⟩ := hL
  have hps : ps.length < 100000 := by rw [← List.length_map (f := Prod.snd), h1]; exact hl
  have hav2 := hav _ hlt
  have HO := hide ((Only.refl [] W).alloc (.cells #[av, .int .i64 r.2.1, .int .i64 r.2.2] 69))
  have HQ := hide (Blk.new W 69 #[av, .int .i64 r.2.1, .int .i64 r.2.2])
  have HB := hide (hb.only HO.out (by simp))
  have H1 := hide h1
  have H2 := hide (own_only2 h2 HO.out (by simp))
  have H3 := hide (fun p hp => (h3 p hp).only HO.out (by simp))
  have H4 := hide (fun x hx => (show v.ownBlock ≠ some x ∧ x < (W.alloc (.cells #[av, .int .i64 r.2.1, .int .i64 r.2.2] 69)).heap.size from ⟨(h4 x hx).1, by rw [World.size_alloc]; have := (h4 x hx).2; omega⟩))
  have HA := hide (hav2.only HO.out (by simp))
  have HBN := hide (show v.ownBlock ≠ some bo from (h4 bo List.mem_cons_self).1)
  have HPS := hide hps
  have HBB := hide (show base ≤ (W.alloc (.cells #[av, .int .i64 r.2.1, .int .i64 r.2.2] 69)).heap.size by rw [World.size_alloc]; omega)
  obtain ⟨A, cv, rfl⟩ : ∃ A cv, v = .slice A ps.length cv := by obtain ⟨A, c, h, _, _⟩ := own_form h2; exact ⟨A, c, h⟩
  obtain ⟨Aa, ca, rfl, _, _⟩ := hav2.formb
  clear h1 h2 h3 h4 hav hav2 hb hlt hps hl
  go_enter Try.func34, Try.ntmps34
  go_upto_region 1 with (fail)
  generalize W.alloc (.cells #[.slice Aa r.1.length ca, .int .i64 r.2.1, .int .i64 r.2.2] 69) = W1 at *
  obtain ⟨q, hq⟩ : ∃ q, q = W.heap.size := ⟨_, rfl⟩
  rw [← hq] at HQ ⊢
  clear hq
  have c0 := HQ.out.cell 0
  have c1 := HQ.out.cell 1
  have c2 := HQ.out.cell 2
  have b0 := HB.out.cell 0
  simp at c0 c1 c2 b0
  have hfb := HB.out.frozen 0
  go_wp2_with (at_builtin; refine append_row (W := W1) (v := .slice A ps.length cv) (av := .slice Aa r.1.length ca) (r := r) (N := bo :: N) rfl (.tmp 3) (.tmp 5) rfl rfl H1.out H2.out H3.out H4.out HA.out rfl (by simp [rowC, Value.oneCell']) (by have := HPS.out; omega) HBB.out rfl ?_; intro v' w' hL' hO'; obtain ⟨A', c', hv', _, _⟩ := hL'.form; obtain ⟨n', hn'⟩ : ∃ n', n' = (l ++ [r]).length := ⟨_, rfl⟩; rw [← hn'] at hv'; subst hv'; clear hn'; have HLN := hide hL'; have HON := hide hO'; have HB2 := hide (HB.out.only hO' (by intro hx; exact HBN.out (by simpa using hx))); have b0 := HB2.out.cell 0; simp at b0; have hfb := HB2.out.frozen 0; clear hL' hO')
  go_end0
  refine ⟨rfl, ⟨_, HB2.out.set_ 0 _, (HLN.out.less (fun x hx => hx)).only (((Only.refl [bo] w').setCell (p := ⟨bo, 0, none⟩) (.inl (by simp)) _)) (by simp)⟩, ?_⟩
  exact ((HO.out.mono (by simp)).trans (HON.out.mono (fun x hx => .inl (List.mem_cons_of_mem _ hx)))).setCell (p := ⟨bo, 0, none⟩) (.inl (by simp)) _

set_option maxRecDepth 100000 in
theorem tell_other (bo oq : Nat) (r : Rw) (av : Value) (W : World) (x : Int) (hq : Blk W oq 3 #[.int .i64 x]) (hne : ¬ r.2.2 = x) :
    Calls Try.prog 33 #[.agg #[av, .int .i64 r.2.1, .int .i64 r.2.2], .pointer (some ⟨oq, 0, none⟩), .pointer (some ⟨bo, 0, none⟩)] W fun e W' => e = .returned (.tuple #[]) ∧ Only [] W W' := by
  have HO := hide ((Only.refl [] W).alloc (.cells #[av, .int .i64 r.2.1, .int .i64 r.2.2] 69))
  have HQ := hide (Blk.new W 69 #[av, .int .i64 r.2.1, .int .i64 r.2.2])
  have HX := hide (hq.only HO.out (by simp))
  have he : (r.2.2 == x) = false := by rw [beq_eq_false_iff_ne]; exact hne
  clear hq hne
  go_enter Try.func33, Try.ntmps33
  go_upto_region 1 with (fail)
  generalize W.alloc (.cells #[av, .int .i64 r.2.1, .int .i64 r.2.2] 69) = W1 at *
  obtain ⟨q, hqq⟩ : ∃ q, q = W.heap.size := ⟨_, rfl⟩
  rw [← hqq] at HQ ⊢
  clear hqq
  have c2 := HQ.out.cell 2
  have x0 := HX.out.cell 0
  simp at c2 x0
  go_wp2_with fail
  go_end0
  exact ⟨rfl, HO.out⟩
set_option maxRecDepth 100000 in
theorem tell_of (bo oq base : Nat) (N : List Nat) (l : List Rw) (r : Rw) (av : Value) (Wp W : World) (hl : l.length < 100000) (v : Value) (hb : Blk W bo 64 #[v]) (hq : Blk W oq 3 #[.int .i64 r.2.2]) (hqo : oq ≠ bo) (hL : LisIs 2 pfxC 29 W base (bo :: N) v l) (hbb : base ≤ W.heap.size) (hav : ∀ M : List Nat, (∀ x ∈ M, x < Wp.heap.size) → Rd W M av (ints .u8 (byts r.1))) (hlt : ∀ x ∈ v.ownBlock.toList ++ bo :: N, x < Wp.heap.size) :
    Calls Try.prog 33 #[.agg #[av, .int .i64 r.2.1, .int .i64 r.2.2], .pointer (some ⟨oq, 0, none⟩), .pointer (some ⟨bo, 0, none⟩)] W fun e W' => e = .returned (.tuple #[]) ∧ (∃ v', Blk W' bo 64 #[v'] ∧ LisIs 2 pfxC 29 W' base (bo :: N) v' (l ++ [r])) ∧ Only (bo :: v.ownBlock.toList) W W' := by
  obtain ⟨ps, h1, h2, h3, h4⟩ := hL
  have hps : ps.length < 100000 := by rw [← List.length_map (f := Prod.snd), h1]; exact hl
  have hav2 := hav _ hlt
  have HO := hide ((Only.refl [] W).alloc (.cells #[av, .int .i64 r.2.1, .int .i64 r.2.2] 69))
  have HQ := hide (Blk.new W 69 #[av, .int .i64 r.2.1, .int .i64 r.2.2])
  have HB := hide (hb.only HO.out (by simp))
  have HX := hide (hq.only HO.out (by simp))
  have H1 := hide h1
  have H2 := hide (own_only2 h2 HO.out (by simp))
  have H3 := hide (fun p hp => (h3 p hp).only HO.out (by simp))
  have H4 := hide (fun x hx => (show v.ownBlock ≠ some x ∧ x < (W.alloc (.cells #[av, .int .i64 r.2.1, .int .i64 r.2.2] 69)).heap.size from ⟨(h4 x hx).1, by rw [World.size_alloc]; have := (h4 x hx).2; omega⟩))
  have HA := hide (hav2.only HO.out (by simp))
  have HBN := hide (show v.ownBlock ≠ some bo from (h4 bo List.mem_cons_self).1)
  have HPS := hide hps
  have HBB := hide (show base ≤ (W.alloc (.cells #[av, .int .i64 r.2.1, .int .i64 r.2.2] 69)).heap.size by rw [World.size_alloc]; omega)
  obtain ⟨A, cv, rfl⟩ : ∃ A cv, v = .slice A ps.length cv := by obtain ⟨A, c, h, _, _⟩ := own_form h2; exact ⟨A, c, h⟩
  obtain ⟨Aa, ca, rfl, _, _⟩ := hav2.formb
  have he : (r.2.2 == r.2.2) = true := by rw [beq_iff_eq]
  clear h1 h2 h3 h4 hav hav2 hb hlt hps hl hq
  go_enter Try.func33, Try.ntmps33
  go_upto_region 1 with (fail)
  generalize W.alloc (.cells #[.slice Aa r.1.length ca, .int .i64 r.2.1, .int .i64 r.2.2] 69) = W1 at *
  obtain ⟨q, hqq⟩ : ∃ q, q = W.heap.size := ⟨_, rfl⟩
  rw [← hqq] at HQ ⊢
  clear hqq
  have c0 := HQ.out.cell 0
  have c1 := HQ.out.cell 1
  have c2 := HQ.out.cell 2
  have b0 := HB.out.cell 0
  have x0 := HX.out.cell 0
  simp at c0 c1 c2 b0 x0
  have hfb := HB.out.frozen 0
  go_wp2_with (at_builtin; refine append_pfx (W := W1) (v := .slice A ps.length cv) (av := .slice Aa r.1.length ca) (r := r) (N := bo :: N) rfl (.tmp 8) (.tmp 11) rfl rfl H1.out H2.out H3.out H4.out HA.out rfl (by simp [pfxC, Value.oneCell']) (by have := HPS.out; omega) HBB.out rfl ?_; intro v' w' hL' hO'; obtain ⟨A', c', hv', _, _⟩ := hL'.form; obtain ⟨n', hn'⟩ : ∃ n', n' = (l ++ [r]).length := ⟨_, rfl⟩; rw [← hn'] at hv'; subst hv'; clear hn'; have HLN := hide hL'; have HON := hide hO'; have HB2 := hide (HB.out.only hO' (by intro hx; exact HBN.out (by simpa using hx))); have b0 := HB2.out.cell 0; simp at b0; have hfb := HB2.out.frozen 0; clear hL' hO')
  go_end0
  refine ⟨rfl, ⟨_, HB2.out.set_ 0 _, (HLN.out.less (fun x hx => hx)).only (((Only.refl [bo] w').setCell (p := ⟨bo, 0, none⟩) (.inl (by simp)) _)) (by simp)⟩, ?_⟩
  exact ((HO.out.mono (by simp)).trans (HON.out.mono (fun x hx => .inl (List.mem_cons_of_mem _ hx)))).setCell (p := ⟨bo, 0, none⟩) (.inl (by simp)) _
end
section
open Go.RowKit Go.Deep

def plainP (l : List UInt8) (b : Nat) : Prop := ∀ k, k < l.length → (l.getD k 0).toNat &&& maskN k b = (l.getD k 0).toNat
instance (l : List UInt8) (b : Nat) : Decidable (plainP l b) := by unfold plainP; infer_instance
end
section
open Go.RowKit Go.Deep

theorem cells_set (l : List UInt8) (k : Nat) (x : Int) (y : UInt8) (h : x = y.toNat) : (ints .u8 (byts l)).toArray.setIfInBounds k (.int .u8 x) = (ints .u8 (byts (l.set k y))).toArray := by
  subst h
  simp [ints, byts, List.map_set]
theorem cells_at {l : List UInt8} {k : Nat} (h : k < l.length) : (ints .u8 (byts l)).toArray[k]? = some (.int .u8 ((l.getD k 0).toNat : Int)) := by
  rw [List.getElem?_toArray]
  exact ints_get (byts_get (getD_some h))
theorem zero_cells (n : Nat) : Array.replicate n (Value.int .u8 0) = (ints .u8 (byts (List.replicate n (0 : UInt8)))).toArray := by
  simp [ints, byts]
theorem rd_of_blk {w : World} {g e : Nat} {cs : List Value} (h : Blk w g e cs.toArray) (N : List Nat) (hN : g ∉ N) (hm : cs.length ≤ maxLen) : Rd w N (.slice (some ⟨g, 0, none⟩) cs.length cs.length) cs :=
  ⟨_, _, rfl, Nat.le_refl _, hm, .inr ⟨g, 0, rfl, hN, h.lt, fun i x hx => by rw [Nat.zero_add, h.cell]; simpa using hx⟩⟩

theorem only_fresh {w w0 wr : World} {g : Nat} (h1 : Only [] w w0) (h2 : Only [g] w0 wr) (hg : w.heap.size ≤ g) : Only [] w wr :=
  ((h1.mono (S' := [g]) (fun x hx => by cases hx)).trans h2).mono fun x hx => .inr (by rw [List.mem_singleton.1 hx]; exact hg)
theorem step_small {l : List UInt8} {i : Nat} (hi : i < 8 * l.length) : ((plainV l i).getD (i / 8) 0).toNat + bitN l i * 2 ^ (7 - i % 8) < 256 := by
  rw [plain_nat (by omega)]
  have := mask_step (l.getD (i / 8) 0).toNat (i % 8) (UInt8.toNat_lt _) (by omega)
  have h2 := and_mk_lt (l.getD (i / 8) 0).toNat (i / 8) (i + 1) (UInt8.toNat_lt _)
  unfold maskN at h2 ⊢
  unfold bitN
  rw [show min 8 (i + 1 - 8 * (i / 8)) = i % 8 + 1 by omega] at h2
  rw [show min 8 (i - 8 * (i / 8)) = i % 8 by omega]
  omega
theorem plain_step2 {l : List UInt8} {i x : Nat} (hi : i < 8 * l.length) (hx : x = ((plainV l i).getD (i / 8) 0).toNat + bitN l i * 2 ^ (7 - i % 8)) :
    ∃ y : UInt8, y.toNat = x ∧ (plainV l i).set (i / 8) y = plainV l (i + 1) := by
  have h := step_small hi
  rw [← hx] at h
  refine ⟨UInt8.ofNat x, by rw [UInt8.toNat_ofNat']; exact Nat.mod_eq_of_lt h, ?_⟩
  rw [plain_step hi, hx]

/-- The plain one, in a block of its own. -/
def PrefFar (l : List UInt8) (b : Int) (w : World) (e : Ending) (w' : World) : Prop := ∃ v, e = .returned (.agg #[v, .int .i64 b]) ∧ (∀ N : List Nat, (∀ x ∈ N, x < w.heap.size) → Rd w' N v (ints .u8 (byts l))) ∧ Only [] w w'
set_option maxRecDepth 100000 in
set_option maxHeartbeats 6400000 in
theorem refplain_far (v : Value) (l : List UInt8) (b : Nat) (N : List Nat) (w : World) (hv : Rd w N v (ints .u8 (byts l))) (hb : b ≤ 8 * l.length) (hl : l.length ≤ 1000) :
    Calls Try.prog 9 #[.agg #[v, .int .i64 b]] w (PrefFar (plainV l b) b w) := by
  obtain ⟨A, cap, rfl, hcp, hcm⟩ := hv.formb
  obtain ⟨n, hn⟩ : ∃ n, n = l.length := ⟨_, rfl⟩
  rw [← hn] at hv hcp hb hl ⊢
  have HN := hide hn
  obtain ⟨i0, hi, hz0, hz1, hz2⟩ := info_parts (show (Try.prog.info? 5).map (fun i => (i.zero, i.size, i.bytes)) = some (some (.int .u8 0), 1, 1) by kernel_rfl)
  have hmk : ∀ W, (Instr.makeSlice 23 (.int .i64 (n : Int)) (.int .i64 (n : Int))).run Try.prog W = .ok (.slice (some ⟨W.heap.size, 0, none⟩) n n) (W.alloc (.cells (Array.replicate n (.int .u8 0)) 5)) := by
    intro W
    exact run_make_row W 23 5 i0 _ Try.underlying23 hi hz0 hz1 rfl .i64 .i64 n n (Nat.le_refl _) (by rw [hz2]; omega) (by omega)
  have HC0 := hide (((((Only.refl [] w).alloc (.cells #[.slice A n cap, .int .i64 b] 29)).alloc (.cells #[.slice none 0 0, .int .i64 0] 29))).alloc (.cells (Array.replicate n (.int .u8 0)) 5))
  have HBX := hide (((Blk.new w 29 #[.slice A n cap, .int .i64 b]).alloc (.cells #[.slice none 0 0, .int .i64 0] 29)).alloc (.cells (Array.replicate n (.int .u8 0)) 5))
  have HBR := hide ((Blk.new (w.alloc (.cells #[.slice A n cap, .int .i64 b] 29)) 29 #[.slice none 0 0, .int .i64 0]).alloc (.cells (Array.replicate n (.int .u8 0)) 5))
  have HBO := hide (Blk.new ((w.alloc (.cells #[.slice A n cap, .int .i64 b] 29)).alloc (.cells #[.slice none 0 0, .int .i64 0] 29)) 5 (Array.replicate n (.int .u8 0)))
  simp only [World.size_alloc] at HBR HBO
  have HV := hide (hv.less (N' := []) (fun x hx => by cases hx))
  clear hv hn
  go_enter Try.func9, Try.ntmps9
  go_wp2_with fail
  obtain ⟨w0, hw0⟩ : ∃ w0, w0 = ((w.alloc (.cells #[.slice A n cap, .int .i64 b] 29)).alloc (.cells #[.slice none 0 0, .int .i64 0] 29)).alloc (.cells (Array.replicate n (.int .u8 0)) 5) := ⟨_, rfl⟩
  rw [← hw0] at HC0 HBX HBR HBO ⊢
  obtain ⟨G, hG⟩ : ∃ G, G = w.heap.size := ⟨_, rfl⟩
  rw [← hG] at HBX HBR HBO ⊢
  have HG := hide hG
  clear hw0 hG hmk
  rw [zero_cells] at HBO
  go_loopw [4] (fun i wr => ∃ k : Nat, k ≤ b ∧ i = .int .i64 k ∧ Hid (Blk wr (G + 1 + 1) 5 (ints .u8 (byts (plainV l k))).toArray) ∧ Hid (Only [G + 1 + 1] w0 wr)) (fun i _ => b - (intOf i).toNat)
  case atStart => exact ⟨0, Nat.zero_le _, rfl, hide (by rw [plain_zero, ← HN.out]; exact HBO.out), hide (Only.refl _ w0)⟩
  case round =>
    obtain ⟨k, hk, rfl, HS, HX⟩ := hrel
    have HA := hide (only_fresh HC0.out HX.out (by rw [HG.out]; omega))
    have HBX := hide (HBX.out.only HX.out (by simp only [List.mem_singleton]; omega))
    have HBR := hide (HBR.out.only HX.out (by simp only [List.mem_singleton]; omega))
    have c0 := HBX.out.cell 0
    have c1 := HBX.out.cell 1
    simp at c0 c1
    by_cases hlt : k < b
    · have hltI : (k : Int) < b := by omega
      have hk8 : k < 8 * l.length := by rw [← HN.out]; omega
      have hkd : k / 8 < l.length := by omega
      have HK := hide ((bit_any _ l _ k wr.drew (HV.out.only HA.out.drew (by simp)) hk8 (by rw [← HN.out]; exact hl)).mono fun e w' h => (⟨h.1, h.2.symm⟩ : _ ∧ w' = wr.drew))
      have hco : wr.cell? ⟨G + 1 + 1, k / 8, none⟩ = some (.int .u8 (((plainV l k).getD (k / 8) 0).toNat : Int)) := by rw [HS.out.cell, cells_at (by rw [plain_length]; exact hkd)]
      have hfo := HS.out.frozen (k / 8)
      have hd : IntKind.i64.wrap ((k : Int) / 8) = ((k / 8 : Nat) : Int) := by rw [IntWalk.i64_in _ (by omega)]; omega
      have hmo : (k : Int).tmod 8 = ((k % 8 : Nat) : Int) := by rw [Int.tmod_eq_emod_of_nonneg (by omega)]; omega
      have hkn : k / 8 < n := by omega
      have hm8 : k % 8 < 8 := by omega
      obtain ⟨q, hq⟩ : ∃ q, q = k / 8 := ⟨_, rfl⟩
      obtain ⟨r, hr⟩ : ∃ r, r = k % 8 := ⟨_, rfl⟩
      obtain ⟨c, hc⟩ : ∃ c, c = ((plainV l k).getD (k / 8) 0).toNat := ⟨_, rfl⟩
      obtain ⟨x, hx⟩ : ∃ x, x = bitN l k := ⟨_, rfl⟩
      have hX0 := step_small hk8
      rw [← hc, ← hx, ← hr] at hX0
      rw [← hc, ← hq] at hco
      rw [← hq] at hd hkn hfo
      rw [← hr] at hmo hm8
      rw [← hx] at HK
      have HQ := hide hq
      have HR := hide hr
      have HCC := hide hc
      have HXX := hide hx
      have HX0 := hide hX0
      obtain ⟨s, hs⟩ : ∃ s, s = 7 - r := ⟨_, rfl⟩
      have hs7 : IntKind.i64.wrap (7 - (r : Int)) = (s : Int) := by rw [IntWalk.i64_in _ (by omega)]; omega
      obtain ⟨y, hy⟩ : ∃ y, y = x * 2 ^ s := ⟨_, rfl⟩
      rw [← hs, ← hy] at hX0
      have hw8 : IntKind.u8.wrap ((x : Int) * 2 ^ s) = (y : Int) := by
        rw [IntKind.wrap_u8, hy, Int.natCast_mul, Int.natCast_pow]
        have h2 : (x : Int) * 2 ^ s = ((x * 2 ^ s : Nat) : Int) := by rw [Int.natCast_mul, Int.natCast_pow]; rfl
        have h3 : ((2 : Nat) : Int) = 2 := rfl
        rw [h3, h2, ← hy]
        omega
      have hcy : (c : Int) + (y : Int) < 256 := by omega
      have hs8 : s ≤ 7 := by omega
      have HX1 := hide (show c + y = ((plainV l k).getD (k / 8) 0).toNat + bitN l k * 2 ^ (7 - k % 8) by rw [hy, hs, hr, hc, hx])
      clear hq hr hc hx hX0 HX0 hs hy
      go_wp2_with fail
      refine wp_region_still_tail 18 (by kernel_rfl) (by kernel_rfl) ?_
      simp only [List.take_succ_cons, List.take_zero, List.drop_succ_cons, List.drop_zero]
      repeat still_step
      still_call HK.out
      repeat still_step
      refine wpStill_nil ?_
      change wpList _ _ _ _ _ wr.drew
      obtain ⟨yb, hyb, hset⟩ := plain_step2 hk8 HX1.out
      have HSET := hide (cells_set (plainV l k) q ((c : Int) + (y : Int)) yb (by rw [hyb]; omega))
      rw [HQ.out, hset, ← HQ.out] at HSET
      have HS2 := hide (HSET.out ▸ (HS.out.drew.set_ q (.int .u8 ((c : Int) + (y : Int)))))
      have HX2 := hide (HX.out.drew.setCell (p := ⟨G + 1 + 1, q, none⟩) (.inl (by simp)) (.int .u8 ((c : Int) + (y : Int))))
      clear hyb hset
      go_wp2_with fail
      go_roundw
      case rel => exact ⟨k + 1, by omega, by go_num, HS2, HX2⟩
      case measure => simp [intOf]; omega
    · obtain rfl : k = b := by omega
      have hge : ¬ (k : Int) < k := by omega
      have hr0 := HBR.out.cell 0
      have hr1 := HBR.out.cell 1
      simp at hr0 hr1
      have hf0 := HBR.out.frozen 0
      have hf1 := HBR.out.frozen 1
      have HF := hide (((HBR.out.set_ 0 (.slice (some ⟨G + 1 + 1, 0, none⟩) n n)).set_ 1 (.int .i64 (k : Int))))
      have HXF := hide (((HX.out.mono (S' := [G + 1, G + 1 + 1]) (fun x hx => .inl (by simp_all))).setCell (p := ⟨G + 1, 0, none⟩) (.inl (by simp)) (.slice (some ⟨G + 1 + 1, 0, none⟩) n n)).setCell (p := ⟨G + 1, 1, none⟩) (.inl (by simp)) (.int .i64 (k : Int)))
      have HSF := hide ((HS.out.far (p := ⟨G + 1, 0, none⟩) (by simp) (.slice (some ⟨G + 1 + 1, 0, none⟩) n n)).far (p := ⟨G + 1, 1, none⟩) (by simp) (.int .i64 (k : Int)))
      go_wp2_with fail
      refine bodyPost_ret (results_cell_row rfl _ _ (G + 1) 29 _ (0, 0) _ rfl HF.out Try.underlying29 rfl (by kernel_rfl)) rfl ?_
      have hRD := fun (N : List Nat) (hN : ∀ x ∈ N, x < w.heap.size) => rd_of_blk HSF.out N (fun h => by have := hN _ h; rw [← HG.out] at this; omega) (by rw [ints_length, byts_length, plain_length, ← HN.out]; unfold maxLen; omega)
      rw [ints_length, byts_length, plain_length, ← HN.out] at hRD
      exact ⟨_, rfl, hRD, ((HC0.out.mono (S' := [G + 1, G + 1 + 1]) (fun x hx => by cases hx)).trans HXF.out).mono fun x hx => .inr (by rw [← HG.out]; simp at hx; omega)⟩
end
end Go.Proofs.Ytokaobilphfdoaa

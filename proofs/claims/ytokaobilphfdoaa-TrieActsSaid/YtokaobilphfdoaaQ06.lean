/-
  Walks and plain words (texts Tru). No condition beyond those that each theorem states.
-/
import Derived.Test.YtokaobilphfdoaaQ05
namespace Go.Proofs.Ytokaobilphfdoaa
section
open Go.RowKit Go.Deep

theorem only_new {S : List Nat} {w0 W W' : World} (h1 : Only [] w0 W) (h2 : Only S W W') (hS : ∀ x ∈ S, w0.heap.size ≤ x) : Only [] w0 W' :=
  (((h1.mono (S' := S) (by simp)).trans h2).mono (fun x hx => .inr (hS x hx)))
/-- What Rows' closure holds: the rows so far. -/
def JR (bo base : Nat) (N : List Nat) (l : List Rw) (W : World) : Prop := ∃ v, Blk W bo 67 #[v] ∧ LisIs 3 rowC 69 W base (bo :: N) v l ∧ base ≤ W.heap.size
def JO (oq bo base : Nat) (x : Int) (N : List Nat) (l : List Rw) (W : World) : Prop := ∃ v, Blk W bo 64 #[v] ∧ Blk W oq 3 #[.int .i64 x] ∧ LisIs 2 pfxC 29 W base (bo :: oq :: N) v (ofV l x) ∧ base ≤ W.heap.size
theorem JR.only {bo base : Nat} {N S : List Nat} {l : List Rw} {W W' : World} (h : JR bo base N l W) (ho : Only S W W') (hS : ∀ x ∈ S, x ∈ N ∧ x ≠ bo) : JR bo base N l W' := by
  obtain ⟨v, h1, h2, h3⟩ := h
  exact ⟨v, h1.only ho (fun hx => (hS _ hx).2 rfl), h2.only ho (fun x hx => List.mem_cons_of_mem _ (hS x hx).1), Nat.le_trans h3 ho.size⟩
theorem JO.only {oq bo base : Nat} {x : Int} {N S : List Nat} {l : List Rw} {W W' : World} (h : JO oq bo base x N l W) (ho : Only S W W') (hS : ∀ y ∈ S, y ∈ N ∧ y ≠ bo ∧ y ≠ oq) : JO oq bo base x N l W' := by
  obtain ⟨v, h1, h0, h2, h3⟩ := h
  exact ⟨v, h1.only ho (fun hx => (hS _ hx).2.1 rfl), h0.only ho (fun hx => (hS _ hx).2.2 rfl), h2.only ho (fun x hx => List.mem_cons_of_mem _ (List.mem_cons_of_mem _ (hS x hx).1)), Nat.le_trans h3 ho.size⟩
theorem JR.keep {bo base : Nat} {N : List Nat} {l : List Rw} {W W' : World} (h : JR bo base N l W) (ho : Only [] W W') {g : Nat} (hg : W.heap.size ≤ g) (hg2 : g < W'.heap.size) : JR bo base (g :: N) l W' := by
  obtain ⟨v, h1, h2, h3⟩ := h
  exact ⟨v, h1.only ho (by simp), (h2.keep ho hg hg2).less (fun x hx => by simp at hx ⊢; rcases hx with rfl | rfl | hx <;> simp [*]), Nat.le_trans h3 ho.size⟩
theorem JO.keep {oq bo base : Nat} {x : Int} {N : List Nat} {l : List Rw} {W W' : World} (h : JO oq bo base x N l W) (ho : Only [] W W') {g : Nat} (hg : W.heap.size ≤ g) (hg2 : g < W'.heap.size) : JO oq bo base x (g :: N) l W' := by
  obtain ⟨v, h1, h0, h2, h3⟩ := h
  exact ⟨v, h1.only ho (by simp), h0.only ho (by simp), (h2.keep ho hg hg2).less (fun x hx => by simp at hx ⊢; rcases hx with rfl | rfl | rfl | hx <;> simp [*]), Nat.le_trans h3 ho.size⟩
theorem JR.less {bo base A : Nat} {N : List Nat} {l : List Rw} {W : World} (h : JR bo base (A :: N) l W) : JR bo base N l W := by
  obtain ⟨v, h1, h2, h3⟩ := h
  exact ⟨v, h1, h2.less (fun x hx => by simp at hx ⊢; rcases hx with rfl | hx <;> simp [*]), h3⟩
theorem JO.less {oq bo base A : Nat} {x : Int} {N : List Nat} {l : List Rw} {W : World} (h : JO oq bo base x (A :: N) l W) : JO oq bo base x N l W := by
  obtain ⟨v, h1, h0, h2, h3⟩ := h
  exact ⟨v, h1, h0, h2.less (fun x hx => by simp at hx ⊢; rcases hx with rfl | rfl | hx <;> simp [*]), h3⟩
theorem lis_lt {k : Nat} {F : PRw → List Value} {e : TypeId} {w : World} {base : Nat} {N : List Nat} {v : Value} {l : List Rw} (h : LisIs k F e w base N v l) : ∀ x ∈ v.ownBlock.toList ++ N, x < w.heap.size := by
  obtain ⟨ps, h1, h2, h3, h4⟩ := h
  intro x hx
  rcases List.mem_append.1 hx with hx | hx
  · exact own_lt h2 (by simpa using hx)
  · exact (h4 x hx).2
theorem lis_own {k : Nat} {F : PRw → List Value} {e : TypeId} {w : World} {base : Nat} {N : List Nat} {v : Value} {l : List Rw} (h : LisIs k F e w base N v l) : (∀ x ∈ N, x ∉ v.ownBlock.toList) ∧ ∀ x ∈ v.ownBlock.toList, base ≤ x := by
  obtain ⟨ps, h1, h2, h3, h4⟩ := h
  exact ⟨fun x hx hh => (h4 x hx).1 (by simpa using hh), fun x hx => own_block_ge h2 (by simpa using hx)⟩
theorem tellR (w0 : World) (bl : List Nat) (hbl : ∀ x ∈ bl, x < w0.heap.size) (bo base A : Nat) (hbo : w0.heap.size ≤ bo) (hbb : bo < base) (hA : A ≠ bo) : ∀ l (r : Rw) av Wp W, JR bo base (A :: bl) l Wp → Only [] Wp W → Only [] w0 Wp → A < Wp.heap.size → l.length < 90000 → (∀ M : List Nat, (∀ x ∈ M, x < Wp.heap.size) → Rd W M av (ints .u8 (byts r.1))) → Calls Try.prog 34 #[.agg #[av, .int .i64 r.2.1, .int .i64 r.2.2], .pointer (some ⟨bo, 0, none⟩)] W fun e W' => e = .returned (.tuple #[]) ∧ JR bo base (A :: bl) (l ++ [r]) W' ∧ Only [] w0 W' ∧ ∀ cs, Blk W A 5 cs → Blk W' A 5 cs := by
  intro l r av Wp W hj ho h0 hAl hl hav
  obtain ⟨v, h1, h2, h3⟩ := hj
  have hlt := lis_lt h2
  obtain ⟨hn, hge⟩ := lis_own h2
  refine (tell_rows bo base (A :: bl) l r av Wp W (by omega) (by simp only [List.mem_cons, not_or]; exact ⟨fun h => hA h.symm, fun h => by have := hbl _ h; omega⟩) v (h1.only ho (by simp)) (h2.only ho (by simp)) (Nat.le_trans h3 ho.size) hbb hav hlt).mono ?_
  rintro e W' ⟨rfl, ⟨v', g1, g2⟩, g3⟩
  refine ⟨rfl, ⟨v', g1, g2, Nat.le_trans h3 (Nat.le_trans ho.size g3.size)⟩, only_new (h0.trans ho) g3 (fun x hx => ?_), fun cs hb => hb.only g3 (fun hx => ?_)⟩
  · rcases List.mem_cons.1 hx with rfl | hx
    · exact hbo
    · have := hge x hx; omega
  · rcases List.mem_cons.1 hx with hx | hx
    · exact hA hx
    · exact hn A (by simp) hx
theorem tellO (w0 : World) (bl : List Nat) (oq bo base : Nat) (x : Int) (A : Nat) (hbo : w0.heap.size ≤ bo) (hbb : bo < base) (hqo : oq ≠ bo) (hA : A ≠ bo) (hAq : A ≠ oq) : ∀ l (r : Rw) av Wp W, JO oq bo base x (A :: bl) l Wp → Only [] Wp W → Only [] w0 Wp → A < Wp.heap.size → l.length < 90000 → (∀ M : List Nat, (∀ x ∈ M, x < Wp.heap.size) → Rd W M av (ints .u8 (byts r.1))) → Calls Try.prog 33 #[.agg #[av, .int .i64 r.2.1, .int .i64 r.2.2], .pointer (some ⟨oq, 0, none⟩), .pointer (some ⟨bo, 0, none⟩)] W fun e W' => e = .returned (.tuple #[]) ∧ JO oq bo base x (A :: bl) (l ++ [r]) W' ∧ Only [] w0 W' ∧ ∀ cs, Blk W A 5 cs → Blk W' A 5 cs := by
  intro l r av Wp W hj ho h0 hAl hl hav
  obtain ⟨v, h1, hq, h2, h3⟩ := hj
  have hlt := lis_lt h2
  obtain ⟨hn, hge⟩ := lis_own h2
  by_cases hx : r.2.2 = x
  · subst hx
    have hof : ofV (l ++ [r]) r.2.2 = ofV l r.2.2 ++ [r] := by unfold ofV; rw [List.filter_append]; simp
    have hle : (ofV l r.2.2).length ≤ l.length := List.length_filter_le _ _
    refine (tell_of bo oq base (oq :: A :: bl) (ofV l r.2.2) r av Wp W (by omega) v (h1.only ho (by simp)) (hq.only ho (by simp)) hqo (h2.only ho (by simp)) (Nat.le_trans h3 ho.size) hav hlt).mono ?_
    rintro e W' ⟨rfl, ⟨v', g1, g2⟩, g3⟩
    refine ⟨rfl, ⟨v', g1, (hq.only ho (by simp)).only g3 (fun hx => ?_), by rw [hof]; exact g2, Nat.le_trans h3 (Nat.le_trans ho.size g3.size)⟩, only_new (h0.trans ho) g3 (fun x hx => ?_), fun cs hb => hb.only g3 (fun hx => ?_)⟩
    · rcases List.mem_cons.1 hx with hx | hx
      · exact hqo hx
      · exact hn oq (by simp) hx
    · rcases List.mem_cons.1 hx with rfl | hx
      · exact hbo
      · have := hge x hx; omega
    · rcases List.mem_cons.1 hx with hx | hx
      · exact hA hx
      · exact hn A (by simp) hx
  · have hof : ofV (l ++ [r]) x = ofV l x := by unfold ofV; rw [List.filter_append]; simp [hx]
    refine (tell_other bo oq r av W x (hq.only ho (by simp)) hx).mono ?_
    rintro e W' ⟨rfl, g3⟩
    refine ⟨rfl, ?_, (h0.trans ho).trans g3, fun cs hb => hb.only g3 (by simp)⟩
    have hj2 := (JO.only (S := []) ⟨v, h1, hq, h2, h3⟩ (ho.trans g3) (by simp))
    unfold JO at hj2 ⊢
    rw [hof]
    exact hj2
theorem bytC_zero (n : Nat) : Array.replicate n (Value.int .u8 0) = bytC n [] := by rw [zero_cells]; rfl

theorem JR_lt {bo base : Nat} {N : List Nat} {l : List Rw} {W : World} (h : JR bo base N l W) : bo < W.heap.size := by obtain ⟨v, h1, _⟩ := h; exact h1.lt
theorem JO_lt {oq bo base : Nat} {x : Int} {N : List Nat} {l : List Rw} {W : World} (h : JO oq bo base x N l W) : bo < W.heap.size ∧ oq < W.heap.size := by obtain ⟨v, h1, h2, _⟩ := h; exact ⟨h1.lt, h2.lt⟩

set_option maxRecDepth 100000 in
set_option maxHeartbeats 6400000 in
theorem each_rows (T : Nat) (bl : List Nat) (ad : Ads) (th : ThF) (ow : OwF) (w0 W : World) (bo base : Nat) (hbo : w0.heap.size ≤ bo) (hbb : bo < base) (hT : TrIs w0 T bl ad th ow) (hlen : (rowsV th ow).length ≤ 1000) (hon : Only [] w0 W) (hj : JR bo base bl [] W) :
    Calls Try.prog 32 #[.pointer (some ⟨T, 0, none⟩), .func (.func 34) #[] #[.pointer (some ⟨bo, 0, none⟩)]] W fun e W' => e = .returned (.tuple #[]) ∧ Only [] w0 W' ∧ JR bo base bl (rowsV th ow) W' := by
  obtain ⟨i0, hi, hz0, hz1, hz2⟩ := info_parts Try.info5
  have hmk4 : ∀ W, (Instr.makeSlice 23 (.int .i64 4) (.int .i64 4)).run Try.prog W = .ok (.slice (some ⟨W.heap.size, 0, none⟩) 4 4) (W.alloc (.cells (Array.replicate 4 (.int .u8 0)) 5)) := fun W => run_make_row W 23 5 i0 _ Try.underlying23 hi hz0 hz1 rfl .i64 .i64 4 4 (Nat.le_refl _) (by rw [hz2]; omega) (by omega)
  have hmk16 : ∀ W, (Instr.makeSlice 23 (.int .i64 16) (.int .i64 16)).run Try.prog W = .ok (.slice (some ⟨W.heap.size, 0, none⟩) 16 16) (W.alloc (.cells (Array.replicate 16 (.int .u8 0)) 5)) := fun W => run_make_row W 23 5 i0 _ Try.underlying23 hi hz0 hz1 rfl .i64 .i64 16 16 (Nat.le_refl _) (by rw [hz2]; omega) (by omega)
  have HT0 := hide hT
  have HBO := hide hbo
  have HLT := hide hT.lt
  have HON := hide hon
  have HJ0 := hide hj
  have HLN := hide (show (dfsL (th false) (ow false) 4 32 []).length + (dfsL (th true) (ow true) 16 128 []).length ≤ 1000 from by unfold rowsV at hlen; rwa [List.length_append] at hlen)
  have HR4 := hide (show ad false [] = some (T, 0) from hT.ads.root false)
  have HR6 := hide (show ad true [] = some (T, 4) from hT.ads.root true)
  clear hlen hon hj hT hbo
  go_enter Try.func32, Try.ntmps32
  go_upto_region 1 with (fail)
  refine wp_region_held_drew (S := fun W' => Only [] w0 W') (by kernel_rfl) (by exact HON.out.drew) (fun hHeld => ?_)
  have HJd := hide (JR.only HJ0.out (S := []) ((Only.refl [] W).drew) (by simp))
  generalize W.drew = wd1 at *
  refine wpAnyH_take (i := 0) (v := ?_) rfl (by kernel_rfl) (by kernel_rfl) (by kernel_rfl) (fun _ _ _ h => h) (Or.inl ⟨by rfl, ?_⟩) (by assumption) ?_
  rotate_left
  · (intro w hSw; (try dsimp only at hSw); go_simp; try with_reducible rfl)
  try simp only [List.getElem_toArray, List.getElem_cons_succ, List.getElem_cons_zero, Act.put, List.setIfInBounds_toArray, List.set_cons_zero, List.set_cons_succ]
  refine wpAnyH_take (i := 1) (v := ?_) rfl (by kernel_rfl) (by kernel_rfl) (by kernel_rfl) (fun _ _ _ h => h) (Or.inl ⟨by rfl, ?_⟩) (by assumption) ?_
  rotate_left
  · (intro w hSw; (try dsimp only at hSw); go_simp; try with_reducible rfl)
  try simp only [List.getElem_toArray, List.getElem_cons_succ, List.getElem_cons_zero, Act.put, List.setIfInBounds_toArray, List.set_cons_zero, List.set_cons_succ]
  refine wpAnyH_take (i := 2) (v := ?_) rfl (by kernel_rfl) (by kernel_rfl) (by kernel_rfl) (fun _ _ _ h => h) (Or.inl ⟨by rfl, ?_⟩) (by assumption) ?_
  rotate_left
  · (intro w hSw; (try dsimp only at hSw); go_simp; try with_reducible rfl)
  try simp only [List.getElem_toArray, List.getElem_cons_succ, List.getElem_cons_zero, Act.put, List.setIfInBounds_toArray, List.set_cons_zero, List.set_cons_succ]
  refine wpAnyH_take (i := 4) (v := ?_) rfl (by kernel_rfl) (by kernel_rfl) (by kernel_rfl) (fun _ _ _ h => h) (Or.inl ⟨by rfl, ?_⟩) (by assumption) ?_
  rotate_left
  · (intro w hSw; (try dsimp only at hSw); go_simp; try with_reducible rfl)
  try simp only [List.getElem_toArray, List.getElem_cons_succ, List.getElem_cons_zero, Act.put, List.setIfInBounds_toArray, List.set_cons_zero, List.set_cons_succ]
  refine wpAnyH_ready (rs := [3]) (by kernel_rfl) (by simp) ?_
  refine (AllReadyH.cons rfl (fun K hK => ?_) AllReadyH.nil)
  have hmk := hmk4 wd1
  go_simp
  clear hmk
  have HA := hide (show Blk (wd1.alloc (.cells (Array.replicate 4 (.int .u8 0)) 5)) wd1.heap.size 5 (bytC 4 []) from by rw [← bytC_zero]; exact Blk.new _ _ _)
  have HJk := hide (JR.keep HJd.out ((Only.refl [] wd1).alloc (.cells (Array.replicate 4 (.int .u8 0)) 5)) (Nat.le_refl _) (by simp))
  have HSZ := hide (show bo < wd1.heap.size ∧ w0.heap.size ≤ wd1.heap.size from ⟨JR_lt HJd.out, hHeld.size⟩)
  refine hK.out _ _ (by exact hHeld.alloc _) (fun hHeldN => ?_)
  clear hK K hHeld
  have hHeld := hHeldN
  clear hHeldN
  try simp only [List.getElem_toArray, List.getElem_cons_succ, List.getElem_cons_zero, Act.put, List.setIfInBounds_toArray, List.set_cons_zero, List.set_cons_succ]
  generalize wd1.alloc (.cells (Array.replicate 4 (.int .u8 0)) 5) = wa1 at *
  generalize wd1.heap.size = A1 at *
  refine wpAnyH_ready (rs := [5]) (by kernel_rfl) (by simp) ?_
  refine (AllReadyH.cons rfl (fun K hK => ?_) AllReadyH.nil)
  have HWC := walk_rows T bl ad th ow false 4 w0 (JR bo base (A1 :: bl)) A1 bo HT0.out (by omega) HSZ.out.2 (fun l W W' h ho => JR.only h ho (by simp; exact (show A1 ≠ bo from by have := HSZ.out.1; omega))) (tellR w0 bl HLT.out bo base A1 HBO.out hbb (by have := HSZ.out.1; omega)) 32 [] [] wa1 rfl (by have := HLN.out; simp only [List.length_nil]; omega) hHeld HJk.out HA.out
  unfold WalkPost_rows at HWC
  simp only [HR4.out, kidV, Option.map_some, List.length_nil, show ((0 : Nat) : Int) = 0 from rfl, List.nil_append] at HWC
  go_simp
  (go_at_call 35; with_reducible refine HWC.mono ?_; rintro e W4 ⟨rfl, ho4, hj4, _⟩)
  have HJ0 := hide (JR.less hj4)
  have HON := hide ho4
  refine hK.out _ _ (by exact ho4) (fun hHeldN => ?_)
  clear hK K hHeld hHeldN hj4 ho4
  try simp only [List.getElem_toArray, List.getElem_cons_succ, List.getElem_cons_zero, Act.put, List.setIfInBounds_toArray, List.set_cons_zero, List.set_cons_succ]
  refine wpAnyH_done (by kernel_rfl) ?_ _
  go_upto_region 2 with (fail)
  refine wp_region_held_drew (S := fun W' => Only [] w0 W') (by kernel_rfl) (by exact HON.out.drew) (fun hHeld => ?_)
  have HJd := hide (JR.only HJ0.out (S := []) ((Only.refl [] W4).drew) (by simp))
  generalize W4.drew = wd2 at *
  refine wpAnyH_take (i := 0) (v := ?_) rfl (by kernel_rfl) (by kernel_rfl) (by kernel_rfl) (fun _ _ _ h => h) (Or.inl ⟨by rfl, ?_⟩) (by assumption) ?_
  rotate_left
  · (intro w hSw; (try dsimp only at hSw); go_simp; try with_reducible rfl)
  try simp only [List.getElem_toArray, List.getElem_cons_succ, List.getElem_cons_zero, Act.put, List.setIfInBounds_toArray, List.set_cons_zero, List.set_cons_succ]
  refine wpAnyH_take (i := 1) (v := ?_) rfl (by kernel_rfl) (by kernel_rfl) (by kernel_rfl) (fun _ _ _ h => h) (Or.inl ⟨by rfl, ?_⟩) (by assumption) ?_
  rotate_left
  · (intro w hSw; (try dsimp only at hSw); go_simp; try with_reducible rfl)
  try simp only [List.getElem_toArray, List.getElem_cons_succ, List.getElem_cons_zero, Act.put, List.setIfInBounds_toArray, List.set_cons_zero, List.set_cons_succ]
  refine wpAnyH_take (i := 2) (v := ?_) rfl (by kernel_rfl) (by kernel_rfl) (by kernel_rfl) (fun _ _ _ h => h) (Or.inl ⟨by rfl, ?_⟩) (by assumption) ?_
  rotate_left
  · (intro w hSw; (try dsimp only at hSw); go_simp; try with_reducible rfl)
  try simp only [List.getElem_toArray, List.getElem_cons_succ, List.getElem_cons_zero, Act.put, List.setIfInBounds_toArray, List.set_cons_zero, List.set_cons_succ]
  refine wpAnyH_take (i := 4) (v := ?_) rfl (by kernel_rfl) (by kernel_rfl) (by kernel_rfl) (fun _ _ _ h => h) (Or.inl ⟨by rfl, ?_⟩) (by assumption) ?_
  rotate_left
  · (intro w hSw; (try dsimp only at hSw); go_simp; try with_reducible rfl)
  try simp only [List.getElem_toArray, List.getElem_cons_succ, List.getElem_cons_zero, Act.put, List.setIfInBounds_toArray, List.set_cons_zero, List.set_cons_succ]
  refine wpAnyH_ready (rs := [3]) (by kernel_rfl) (by simp) ?_
  refine (AllReadyH.cons rfl (fun K hK => ?_) AllReadyH.nil)
  have hmk := hmk16 wd2
  go_simp
  clear hmk
  have HA := hide (show Blk (wd2.alloc (.cells (Array.replicate 16 (.int .u8 0)) 5)) wd2.heap.size 5 (bytC 16 []) from by rw [← bytC_zero]; exact Blk.new _ _ _)
  have HJk := hide (JR.keep HJd.out ((Only.refl [] wd2).alloc (.cells (Array.replicate 16 (.int .u8 0)) 5)) (Nat.le_refl _) (by simp))
  have HSZ := hide (show bo < wd2.heap.size ∧ w0.heap.size ≤ wd2.heap.size from ⟨JR_lt HJd.out, hHeld.size⟩)
  refine hK.out _ _ (by exact hHeld.alloc _) (fun hHeldN => ?_)
  clear hK K hHeld
  have hHeld := hHeldN
  clear hHeldN
  try simp only [List.getElem_toArray, List.getElem_cons_succ, List.getElem_cons_zero, Act.put, List.setIfInBounds_toArray, List.set_cons_zero, List.set_cons_succ]
  generalize wd2.alloc (.cells (Array.replicate 16 (.int .u8 0)) 5) = wa2 at *
  generalize wd2.heap.size = A2 at *
  refine wpAnyH_ready (rs := [5]) (by kernel_rfl) (by simp) ?_
  refine (AllReadyH.cons rfl (fun K hK => ?_) AllReadyH.nil)
  have HWC := walk_rows T bl ad th ow true 16 w0 (JR bo base (A2 :: bl)) A2 bo HT0.out (by omega) HSZ.out.2 (fun l W W' h ho => JR.only h ho (by simp; exact (show A2 ≠ bo from by have := HSZ.out.1; omega))) (tellR w0 bl HLT.out bo base A2 HBO.out hbb (by have := HSZ.out.1; omega)) 128 [] (dfsL (th false) (ow false) 4 32 []) wa2 rfl (by have := HLN.out; omega) hHeld HJk.out HA.out
  unfold WalkPost_rows at HWC
  simp only [HR6.out, kidV, Option.map_some, List.length_nil, show ((0 : Nat) : Int) = 0 from rfl, List.nil_append] at HWC
  go_simp
  (go_at_call 35; with_reducible refine HWC.mono ?_; rintro e W4 ⟨rfl, ho4, hj4, _⟩)
  have HJ0 := hide (JR.less hj4)
  have HON := hide ho4
  refine hK.out _ _ (by exact ho4) (fun hHeldN => ?_)
  clear hK K hHeld hHeldN hj4 ho4
  try simp only [List.getElem_toArray, List.getElem_cons_succ, List.getElem_cons_zero, Act.put, List.setIfInBounds_toArray, List.set_cons_zero, List.set_cons_succ]
  refine wpAnyH_done (by kernel_rfl) ?_ _
  go_wp2_with fail
  go_end0
  exact ⟨rfl, HON.out, HJ0.out⟩

set_option maxRecDepth 100000 in
set_option maxHeartbeats 6400000 in
theorem each_of (T : Nat) (bl : List Nat) (ad : Ads) (th : ThF) (ow : OwF) (w0 W : World) (oq bo base : Nat) (x : Int) (hbo : w0.heap.size ≤ bo) (hbb : bo < base) (hqo : oq ≠ bo) (hT : TrIs w0 T bl ad th ow) (hlen : (rowsV th ow).length ≤ 1000) (hon : Only [] w0 W) (hj : JO oq bo base x bl [] W) :
    Calls Try.prog 32 #[.pointer (some ⟨T, 0, none⟩), .func (.func 33) #[] #[.pointer (some ⟨oq, 0, none⟩), .pointer (some ⟨bo, 0, none⟩)]] W fun e W' => e = .returned (.tuple #[]) ∧ Only [] w0 W' ∧ JO oq bo base x bl (rowsV th ow) W' := by
  obtain ⟨i0, hi, hz0, hz1, hz2⟩ := info_parts Try.info5
  have hmk4 : ∀ W, (Instr.makeSlice 23 (.int .i64 4) (.int .i64 4)).run Try.prog W = .ok (.slice (some ⟨W.heap.size, 0, none⟩) 4 4) (W.alloc (.cells (Array.replicate 4 (.int .u8 0)) 5)) := fun W => run_make_row W 23 5 i0 _ Try.underlying23 hi hz0 hz1 rfl .i64 .i64 4 4 (Nat.le_refl _) (by rw [hz2]; omega) (by omega)
  have hmk16 : ∀ W, (Instr.makeSlice 23 (.int .i64 16) (.int .i64 16)).run Try.prog W = .ok (.slice (some ⟨W.heap.size, 0, none⟩) 16 16) (W.alloc (.cells (Array.replicate 16 (.int .u8 0)) 5)) := fun W => run_make_row W 23 5 i0 _ Try.underlying23 hi hz0 hz1 rfl .i64 .i64 16 16 (Nat.le_refl _) (by rw [hz2]; omega) (by omega)
  have HT0 := hide hT
  have HBO := hide hbo
  have HQO := hide hqo
  have HLT := hide hT.lt
  have HON := hide hon
  have HJ0 := hide hj
  have HLN := hide (show (dfsL (th false) (ow false) 4 32 []).length + (dfsL (th true) (ow true) 16 128 []).length ≤ 1000 from by unfold rowsV at hlen; rwa [List.length_append] at hlen)
  have HR4 := hide (show ad false [] = some (T, 0) from hT.ads.root false)
  have HR6 := hide (show ad true [] = some (T, 4) from hT.ads.root true)
  clear hlen hon hj hT hbo hqo
  go_enter Try.func32, Try.ntmps32
  go_upto_region 1 with (fail)
  refine wp_region_held_drew (S := fun W' => Only [] w0 W') (by kernel_rfl) (by exact HON.out.drew) (fun hHeld => ?_)
  have HJd := hide (JO.only HJ0.out (S := []) ((Only.refl [] W).drew) (by simp))
  generalize W.drew = wd1 at *
  refine wpAnyH_take (i := 0) (v := ?_) rfl (by kernel_rfl) (by kernel_rfl) (by kernel_rfl) (fun _ _ _ h => h) (Or.inl ⟨by rfl, ?_⟩) (by assumption) ?_
  rotate_left
  · (intro w hSw; (try dsimp only at hSw); go_simp; try with_reducible rfl)
  try simp only [List.getElem_toArray, List.getElem_cons_succ, List.getElem_cons_zero, Act.put, List.setIfInBounds_toArray, List.set_cons_zero, List.set_cons_succ]
  refine wpAnyH_take (i := 1) (v := ?_) rfl (by kernel_rfl) (by kernel_rfl) (by kernel_rfl) (fun _ _ _ h => h) (Or.inl ⟨by rfl, ?_⟩) (by assumption) ?_
  rotate_left
  · (intro w hSw; (try dsimp only at hSw); go_simp; try with_reducible rfl)
  try simp only [List.getElem_toArray, List.getElem_cons_succ, List.getElem_cons_zero, Act.put, List.setIfInBounds_toArray, List.set_cons_zero, List.set_cons_succ]
  refine wpAnyH_take (i := 2) (v := ?_) rfl (by kernel_rfl) (by kernel_rfl) (by kernel_rfl) (fun _ _ _ h => h) (Or.inl ⟨by rfl, ?_⟩) (by assumption) ?_
  rotate_left
  · (intro w hSw; (try dsimp only at hSw); go_simp; try with_reducible rfl)
  try simp only [List.getElem_toArray, List.getElem_cons_succ, List.getElem_cons_zero, Act.put, List.setIfInBounds_toArray, List.set_cons_zero, List.set_cons_succ]
  refine wpAnyH_take (i := 4) (v := ?_) rfl (by kernel_rfl) (by kernel_rfl) (by kernel_rfl) (fun _ _ _ h => h) (Or.inl ⟨by rfl, ?_⟩) (by assumption) ?_
  rotate_left
  · (intro w hSw; (try dsimp only at hSw); go_simp; try with_reducible rfl)
  try simp only [List.getElem_toArray, List.getElem_cons_succ, List.getElem_cons_zero, Act.put, List.setIfInBounds_toArray, List.set_cons_zero, List.set_cons_succ]
  refine wpAnyH_ready (rs := [3]) (by kernel_rfl) (by simp) ?_
  refine (AllReadyH.cons rfl (fun K hK => ?_) AllReadyH.nil)
  have hmk := hmk4 wd1
  go_simp
  clear hmk
  have HA := hide (show Blk (wd1.alloc (.cells (Array.replicate 4 (.int .u8 0)) 5)) wd1.heap.size 5 (bytC 4 []) from by rw [← bytC_zero]; exact Blk.new _ _ _)
  have HJk := hide (JO.keep HJd.out ((Only.refl [] wd1).alloc (.cells (Array.replicate 4 (.int .u8 0)) 5)) (Nat.le_refl _) (by simp))
  have HSZ := hide (show (bo < wd1.heap.size ∧ oq < wd1.heap.size) ∧ w0.heap.size ≤ wd1.heap.size from ⟨JO_lt HJd.out, hHeld.size⟩)
  refine hK.out _ _ (by exact hHeld.alloc _) (fun hHeldN => ?_)
  clear hK K hHeld
  have hHeld := hHeldN
  clear hHeldN
  try simp only [List.getElem_toArray, List.getElem_cons_succ, List.getElem_cons_zero, Act.put, List.setIfInBounds_toArray, List.set_cons_zero, List.set_cons_succ]
  generalize wd1.alloc (.cells (Array.replicate 4 (.int .u8 0)) 5) = wa1 at *
  generalize wd1.heap.size = A1 at *
  refine wpAnyH_ready (rs := [5]) (by kernel_rfl) (by simp) ?_
  refine (AllReadyH.cons rfl (fun K hK => ?_) AllReadyH.nil)
  have HWC := walk_of T bl ad th ow false 4 w0 (JO oq bo base x (A1 :: bl)) A1 oq bo HT0.out (by omega) HSZ.out.2 (fun l W W' h ho => JO.only h ho (by simp; exact ⟨(show A1 ≠ bo from by have := HSZ.out.1.1; omega), (show A1 ≠ oq from by have := HSZ.out.1.2; omega)⟩)) (tellO w0 bl oq bo base x A1 HBO.out hbb HQO.out (by have := HSZ.out.1.1; omega) (by have := HSZ.out.1.2; omega)) 32 [] [] wa1 rfl (by have := HLN.out; simp only [List.length_nil]; omega) hHeld HJk.out HA.out
  unfold WalkPost_of at HWC
  simp only [HR4.out, kidV, Option.map_some, List.length_nil, show ((0 : Nat) : Int) = 0 from rfl, List.nil_append] at HWC
  go_simp
  (go_at_call 35; with_reducible refine HWC.mono ?_; rintro e W4 ⟨rfl, ho4, hj4, _⟩)
  have HJ0 := hide (JO.less hj4)
  have HON := hide ho4
  refine hK.out _ _ (by exact ho4) (fun hHeldN => ?_)
  clear hK K hHeld hHeldN hj4 ho4
  try simp only [List.getElem_toArray, List.getElem_cons_succ, List.getElem_cons_zero, Act.put, List.setIfInBounds_toArray, List.set_cons_zero, List.set_cons_succ]
  refine wpAnyH_done (by kernel_rfl) ?_ _
  go_upto_region 2 with (fail)
  refine wp_region_held_drew (S := fun W' => Only [] w0 W') (by kernel_rfl) (by exact HON.out.drew) (fun hHeld => ?_)
  have HJd := hide (JO.only HJ0.out (S := []) ((Only.refl [] W4).drew) (by simp))
  generalize W4.drew = wd2 at *
  refine wpAnyH_take (i := 0) (v := ?_) rfl (by kernel_rfl) (by kernel_rfl) (by kernel_rfl) (fun _ _ _ h => h) (Or.inl ⟨by rfl, ?_⟩) (by assumption) ?_
  rotate_left
  · (intro w hSw; (try dsimp only at hSw); go_simp; try with_reducible rfl)
  try simp only [List.getElem_toArray, List.getElem_cons_succ, List.getElem_cons_zero, Act.put, List.setIfInBounds_toArray, List.set_cons_zero, List.set_cons_succ]
  refine wpAnyH_take (i := 1) (v := ?_) rfl (by kernel_rfl) (by kernel_rfl) (by kernel_rfl) (fun _ _ _ h => h) (Or.inl ⟨by rfl, ?_⟩) (by assumption) ?_
  rotate_left
  · (intro w hSw; (try dsimp only at hSw); go_simp; try with_reducible rfl)
  try simp only [List.getElem_toArray, List.getElem_cons_succ, List.getElem_cons_zero, Act.put, List.setIfInBounds_toArray, List.set_cons_zero, List.set_cons_succ]
  refine wpAnyH_take (i := 2) (v := ?_) rfl (by kernel_rfl) (by kernel_rfl) (by kernel_rfl) (fun _ _ _ h => h) (Or.inl ⟨by rfl, ?_⟩) (by assumption) ?_
  rotate_left
  · (intro w hSw; (try dsimp only at hSw); go_simp; try with_reducible rfl)
  try simp only [List.getElem_toArray, List.getElem_cons_succ, List.getElem_cons_zero, Act.put, List.setIfInBounds_toArray, List.set_cons_zero, List.set_cons_succ]
  refine wpAnyH_take (i := 4) (v := ?_) rfl (by kernel_rfl) (by kernel_rfl) (by kernel_rfl) (fun _ _ _ h => h) (Or.inl ⟨by rfl, ?_⟩) (by assumption) ?_
  rotate_left
  · (intro w hSw; (try dsimp only at hSw); go_simp; try with_reducible rfl)
  try simp only [List.getElem_toArray, List.getElem_cons_succ, List.getElem_cons_zero, Act.put, List.setIfInBounds_toArray, List.set_cons_zero, List.set_cons_succ]
  refine wpAnyH_ready (rs := [3]) (by kernel_rfl) (by simp) ?_
  refine (AllReadyH.cons rfl (fun K hK => ?_) AllReadyH.nil)
  have hmk := hmk16 wd2
  go_simp
  clear hmk
  have HA := hide (show Blk (wd2.alloc (.cells (Array.replicate 16 (.int .u8 0)) 5)) wd2.heap.size 5 (bytC 16 []) from by rw [← bytC_zero]; exact Blk.new _ _ _)
  have HJk := hide (JO.keep HJd.out ((Only.refl [] wd2).alloc (.cells (Array.replicate 16 (.int .u8 0)) 5)) (Nat.le_refl _) (by simp))
  have HSZ := hide (show (bo < wd2.heap.size ∧ oq < wd2.heap.size) ∧ w0.heap.size ≤ wd2.heap.size from ⟨JO_lt HJd.out, hHeld.size⟩)
  refine hK.out _ _ (by exact hHeld.alloc _) (fun hHeldN => ?_)
  clear hK K hHeld
  have hHeld := hHeldN
  clear hHeldN
  try simp only [List.getElem_toArray, List.getElem_cons_succ, List.getElem_cons_zero, Act.put, List.setIfInBounds_toArray, List.set_cons_zero, List.set_cons_succ]
  generalize wd2.alloc (.cells (Array.replicate 16 (.int .u8 0)) 5) = wa2 at *
  generalize wd2.heap.size = A2 at *
  refine wpAnyH_ready (rs := [5]) (by kernel_rfl) (by simp) ?_
  refine (AllReadyH.cons rfl (fun K hK => ?_) AllReadyH.nil)
  have HWC := walk_of T bl ad th ow true 16 w0 (JO oq bo base x (A2 :: bl)) A2 oq bo HT0.out (by omega) HSZ.out.2 (fun l W W' h ho => JO.only h ho (by simp; exact ⟨(show A2 ≠ bo from by have := HSZ.out.1.1; omega), (show A2 ≠ oq from by have := HSZ.out.1.2; omega)⟩)) (tellO w0 bl oq bo base x A2 HBO.out hbb HQO.out (by have := HSZ.out.1.1; omega) (by have := HSZ.out.1.2; omega)) 128 [] (dfsL (th false) (ow false) 4 32 []) wa2 rfl (by have := HLN.out; omega) hHeld HJk.out HA.out
  unfold WalkPost_of at HWC
  simp only [HR6.out, kidV, Option.map_some, List.length_nil, show ((0 : Nat) : Int) = 0 from rfl, List.nil_append] at HWC
  go_simp
  (go_at_call 35; with_reducible refine HWC.mono ?_; rintro e W4 ⟨rfl, ho4, hj4, _⟩)
  have HJ0 := hide (JO.less hj4)
  have HON := hide ho4
  refine hK.out _ _ (by exact ho4) (fun hHeldN => ?_)
  clear hK K hHeld hHeldN hj4 ho4
  try simp only [List.getElem_toArray, List.getElem_cons_succ, List.getElem_cons_zero, Act.put, List.setIfInBounds_toArray, List.set_cons_zero, List.set_cons_succ]
  refine wpAnyH_done (by kernel_rfl) ?_ _
  go_wp2_with fail
  go_end0
  exact ⟨rfl, HON.out, HJ0.out⟩
end
end Go.Proofs.Ytokaobilphfdoaa

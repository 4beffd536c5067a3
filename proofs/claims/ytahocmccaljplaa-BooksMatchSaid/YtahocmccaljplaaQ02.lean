/-
  Walks and plain words (texts Bk6). No condition beyond those that each theorem states.
-/
import Derived.Test.YtahocmccaljplaaQ01
namespace Go.Proofs.Ytahocmccaljplaa
section
open Go.RowKit Go.Deep Go.Maps Go.WideMaps

def partN (l : List Rc) (i : Nat) : List Int := (matchN l i).take i ++ List.replicate (l.length - i) 0
section
variable {l : List Rc} {i : Nat}
theorem partN_get (hi : i ≤ l.length) (j : Nat) : (partN l i)[j]? = if j < i then (matchN l i)[j]? else if j < l.length then some 0 else none := by
  have hl := (inv_all l i hi).1
  unfold partN
  by_cases h : j < i
  · rw [if_pos h, List.getElem?_append_left (by rw [List.length_take]; omega), List.getElem?_take, if_pos h]
  · rw [if_neg h, List.getElem?_append_right (by rw [List.length_take]; omega), List.getElem?_replicate, List.length_take, hl]
    by_cases h2 : j < l.length
    · rw [if_pos h2, if_pos (by omega)]
    · rw [if_neg h2, if_neg (by omega)]
theorem partN_len (hi : i ≤ l.length) : (partN l i).length = l.length := by
  have hl := (inv_all l i hi).1
  unfold partN
  rw [List.length_append, List.length_take, List.length_replicate]
  omega
theorem partN_zero : partN l 0 = List.replicate l.length 0 := by unfold partN; simp
theorem partN_end : partN l l.length = matchM l := by
  unfold partN matchM
  rw [Nat.sub_self, List.take_of_length_le (by rw [(inv_all l l.length (Nat.le_refl _)).1]; exact Nat.le_refl _)]
  simp
theorem partN_step (hi : i < l.length) (e : matchN l (i + 1) = matchN l i) : (partN l i).set i (-1) = partN l (i + 1) := by
  apply List.ext_getElem?
  intro j
  rw [List.getElem?_set, partN_get (by omega), partN_get (by omega), e, partN_len (by omega)]
  by_cases h : i = j
  · subst h
    rw [if_pos rfl, if_pos hi, if_pos (by omega), (inv_all l i (by omega)).2.1 i (Nat.le_refl _) hi]
  · rw [if_neg h]
    by_cases h2 : j < i
    · rw [if_pos h2, if_pos (by omega)]
    · rw [if_neg h2, if_neg (show ¬ j < i + 1 by omega)]
theorem partN_go (hi : i < l.length) {k : Nat} (hk : k < i) (e : matchN l (i + 1) = ((matchN l i).set i (k : Nat)).set k (i : Nat)) : (((partN l i).set i (-1)).set i (k : Int)).set k (i : Int) = partN l (i + 1) := by
  have hl := (inv_all l i (by omega)).1
  apply List.ext_getElem?
  intro j
  rw [partN_get (by omega), e]
  simp only [List.getElem?_set, List.length_set, partN_len (show i ≤ l.length by omega), partN_get (show i ≤ l.length by omega), hl]
  by_cases h : k = j
  · subst h
    simp [hi, show k < l.length by omega, show k < i + 1 by omega]
  · by_cases h1 : i = j
    · subst h1
      simp [h, hi]
    · by_cases h2 : j < i
      · simp [h, h1, h2, show j < i + 1 by omega]
      · simp [h, h1, h2, show ¬ j < i + 1 by omega]
end
theorem data_injB {a b : ByteArray} (h : a.data.toList = b.data.toList) : a = b := ByteArray.ext (Array.toList_inj.1 h)
theorem key_inj {f t f' t' : Int} {s s' : ByteArray} (h : keyR f t s = keyR f' t' s') : f = f' ∧ t = t' ∧ s = s' := by
  unfold keyR at h
  injection h with h
  have h0 := congrArg (fun a : Array Value => a[0]?) h
  have h1 := congrArg (fun a : Array Value => a[1]?) h
  have h2 := congrArg (fun a : Array Value => a[2]?) h
  simp at h0 h1 h2
  exact ⟨h0, h1, h2⟩
theorem RowAt.grown {w w' : World} {base : Nat} {v : Value} {xs : List Nat} {row : Option Nat} (h : RowAt w base v xs) (hg : w.grownBy w' row) (hr : ∀ g, v.ownBlock = some g → row ≠ some g) : RowAt w' base v xs := by
  rcases h with h | ⟨g, o, cap, cur, rfl, hb, hh, h⟩
  · exact .inl h
  · refine .inr ⟨g, o, cap, cur, rfl, hb, ?_, h⟩
    have hlt : g < w.heap.size := by
      rcases Nat.lt_or_ge g w.heap.size with hl | hl
      · exact hl
      · rw [Array.getElem?_eq_none hl] at hh; cases hh
    exact (hg.block g hlt (fun e => hr g rfl e.symm)).trans hh
structure MInv (l : List Rc) (G i n : Nat) (F : Value → Value) (wr : World) : Prop where
  wait : WaitIs (G + 1) n F wr
  rows : ∀ (f t : Int) (s : ByteArray), RowAt wr (G + 2) (F (keyR f t s)) (rowM l i ⟨2, t, f, s.data.toList, 0⟩)
  sep : ∀ (f t : Int) (s : ByteArray) (f' t' : Int) (s' : ByteArray), keyR f t s ≠ keyR f' t' s' → ∀ g, (F (keyR f t s)).ownBlock = some g → (F (keyR f' t' s')).ownBlock ≠ some g
section
variable {l : List Rc} {G i n : Nat} {F F' : Value → Value} {wr w1 w2 : World}
theorem MInv.start (w : World) (G : Nat) (hG : w.heap.size = G + 1) : MInv l G 0 0 (fun _ => .slice none 0 0) (w.alloc (.map #[] 0)) := by
  refine ⟨by rw [← hG]; exact WaitIs.made w, fun f t s => .inl ⟨rfl, rfl⟩, ?_⟩
  intro f t s f' t' s' _ g hg
  cases hg
theorem MInv.only {S : List Nat} (h : MInv l G i n F wr) (ho : Only S wr w1) (hS : ∀ x ∈ S, x ≤ G) : MInv l G i n F w1 :=
  ⟨h.wait.only ho (fun hx => by have := hS _ hx; omega), fun f t s => (h.rows f t s).only ho (fun g hg hx => by
    have := (h.rows f t s).block_lt hg
    have := hS _ hx
    omega), h.sep⟩
theorem MInv.same (h : MInv l G i n F wr) (y : Rc) (hy : l[i]? = some y) (hk : y.k ≠ 1) (e : matchN l (i + 1) = matchN l i) : MInv l G (i + 1) n F wr :=
  ⟨h.wait, fun f t s => by rw [row_same l i y _ hy hk e]; exact h.rows f t s, h.sep⟩
theorem MInv.take (h : MInv l G i n F wr) (y : Rc) (hy : l[i]? = some y) (hi : i < l.length) (hk : y.k = 1) {s : ByteArray} (hs : s.data.toList = y.b) {v' : Value}
    (hrow : RowAt w1 (G + 2) v' (rowM l i ⟨2, y.p, y.a, s.data.toList, 0⟩ ++ [i])) (hgr : wr.grownBy w1 (F (keyR y.a y.p s)).ownBlock) (hbl : v'.ownBlock = (F (keyR y.a y.p s)).ownBlock ∨ v'.ownBlock = some wr.heap.size)
    (hw : WaitIs (G + 1) (n + 1) F' w2) (hF : F' (keyR y.a y.p s) = v') (hF2 : ∀ k, k ≠ keyR y.a y.p s → F' k = F k) (hgr2 : w1.grownBy w2 (some (G + 1))) : MInv l G (i + 1) (n + 1) F' w2 := by
  refine ⟨hw, fun f t s' => ?_, fun f t s1 f' t' s2 hne g hg hg' => ?_⟩
  · by_cases he : keyR f t s' = keyR y.a y.p s
    · obtain ⟨rfl, rfl, rfl⟩ := key_inj he
      rw [hF, row_take l i hi y _ hy hk, if_pos (by unfold fitB; rw [decide_eq_true_eq]; exact ⟨hk, rfl, rfl, hs.symm⟩)]
      exact hrow.grown hgr2 (fun g hg e => by
        have := (hrow.block_lt hg).1
        injection e with e
        omega)
    · rw [hF2 _ he, row_take l i hi y _ hy hk, if_neg (by
        unfold fitB
        rw [decide_eq_true_eq]
        rintro ⟨_, h1, h2, h3⟩
        refine he ?_
        simp only at h1 h2 h3
        rw [h1, h2, data_injB (a := s') (b := s) (by rw [← h3, hs])])]
      exact ((h.rows f t s').grown hgr (fun g hg e => h.sep _ _ _ _ _ _ he g hg e)).grown hgr2 (fun g hg e => by
        have := ((h.rows f t s').block_lt hg).1
        injection e with e
        omega)
  · by_cases h1 : keyR f t s1 = keyR y.a y.p s
    · have h2 : keyR f' t' s2 ≠ keyR y.a y.p s := fun e => hne (h1.trans e.symm)
      rw [h1, hF] at hg
      rw [hF2 _ h2] at hg'
      rcases hbl with hbl | hbl
      · rw [hbl] at hg
        exact h.sep _ _ _ _ _ _ (Ne.symm h2) g hg hg'
      · rw [hbl] at hg
        injection hg with hg
        have := ((h.rows f' t' s2).block_lt hg').2
        omega
    · rw [hF2 _ h1] at hg
      by_cases h2 : keyR f' t' s2 = keyR y.a y.p s
      · rw [h2, hF] at hg'
        rcases hbl with hbl | hbl
        · rw [hbl] at hg'
          exact h.sep _ _ _ _ _ _ h1 g hg hg'
        · rw [hbl] at hg'
          injection hg' with hg'
          have := ((h.rows f t s1).block_lt hg).2
          omega
      · rw [hF2 _ h2] at hg'
        exact h.sep _ _ _ _ _ _ hne g hg hg'
/-- The row without its first one. -/
def tailV (A : Option Addr) (n c : Nat) : Value := .slice (if c = 1 then A else A.map (·.add 1)) (n - 1) (c - 1)
theorem RowAt.tail {w : World} {base k : Nat} {v : Value} {r : List Nat} (h : RowAt w base v (k :: r)) : ∃ g o c, v = .slice (some ⟨g, o, none⟩) (r.length + 1) c ∧ RowAt w base (tailV (some ⟨g, o, none⟩) (r.length + 1) c) r ∧ (tailV (some ⟨g, o, none⟩) (r.length + 1) c).ownBlock = some g ∧ w.cell? ⟨g, o, none⟩ = some (.int .i64 k) ∧ r.length + 1 ≤ c := by
  rcases h with ⟨_, h⟩ | ⟨g, o, cap, cur, rfl, hb, hg, hcap, hlc, hx⟩
  · cases h
  · rw [List.length_cons] at hlc
    have hc0 : w.cell? ⟨g, o, none⟩ = some (.int .i64 k) := by
      have := hx 0 k rfl
      simp [World.cell?, hg]
      simpa using this
    refine ⟨g, o, cap, rfl, ?_, ?_, hc0, hlc⟩
    · by_cases h1 : cap = 1
      · have hr : r = [] := List.eq_nil_of_length_eq_zero (by omega)
        subst hr
        refine .inr ⟨g, o, 0, cur, ?_, hb, hg, by omega, by simp, fun j x hj => by simp at hj⟩
        unfold tailV
        rw [if_pos h1, h1]
        rfl
      · refine .inr ⟨g, o + 1, cap - 1, cur, ?_, hb, hg, by omega, by omega, fun j x hj => ?_⟩
        · unfold tailV
          rw [if_neg h1, Option.map_some, addr_add_at, Nat.add_sub_cancel]
        · have := hx (j + 1) x (by simpa using hj)
          rw [show o + 1 + j = o + (j + 1) by omega]
          exact this
    · unfold tailV
      by_cases h1 : cap = 1
      · rw [if_pos h1]; rfl
      · rw [if_neg h1, Option.map_some, addr_add_at]; rfl
theorem MInv.gone (h : MInv l G i n F wr) (y : Rc) (hy : l[i]? = some y) (hi : i < l.length) (hk : y.k = 2) {s : ByteArray} (hs : s.data.toList = y.b) {v' : Value} {k : Nat} {r : List Nat} (hr : rowM l i y = k :: r)
    (hrow : RowAt wr (G + 2) v' r) (hbl : v'.ownBlock = (F (keyR y.p y.a s)).ownBlock)
    (hw : WaitIs (G + 1) (n + 1) F' w2) (hF : F' (keyR y.p y.a s) = v') (hF2 : ∀ k, k ≠ keyR y.p y.a s → F' k = F k) (hgr2 : wr.grownBy w2 (some (G + 1))) : MInv l G (i + 1) (n + 1) F' w2 := by
  refine ⟨hw, fun f t s' => ?_, fun f t s1 f' t' s2 hne g hg hg' => ?_⟩
  · by_cases he : keyR f t s' = keyR y.p y.a s
    · obtain ⟨rfl, rfl, rfl⟩ := key_inj he
      rw [hF, row_go l i hi y _ hy hk k r hr, if_pos ⟨rfl, rfl, hs⟩]
      exact hrow.grown hgr2 (fun g hg e => by
        have := (hrow.block_lt hg).1
        injection e with e
        omega)
    · rw [hF2 _ he, row_go l i hi y _ hy hk k r hr, if_neg (by
        rintro ⟨h1, h2, h3⟩
        refine he ?_
        simp only at h1 h2 h3
        rw [h1, h2, data_injB (a := s') (b := s) (by rw [h3, hs])])]
      exact (h.rows f t s').grown hgr2 (fun g hg e => by
        have := ((h.rows f t s').block_lt hg).1
        injection e with e
        omega)
  · by_cases h1 : keyR f t s1 = keyR y.p y.a s
    · have h2 : keyR f' t' s2 ≠ keyR y.p y.a s := fun e => hne (h1.trans e.symm)
      rw [h1, hF, hbl] at hg
      rw [hF2 _ h2] at hg'
      exact h.sep _ _ _ _ _ _ (Ne.symm h2) g hg hg'
    · rw [hF2 _ h1] at hg
      by_cases h2 : keyR f' t' s2 = keyR y.p y.a s
      · rw [h2, hF, hbl] at hg'
        exact h.sep _ _ _ _ _ _ h1 g hg hg'
      · rw [hF2 _ h2] at hg'
        exact h.sep _ _ _ _ _ _ hne g hg hg'
end
end
end Go.Proofs.Ytahocmccaljplaa

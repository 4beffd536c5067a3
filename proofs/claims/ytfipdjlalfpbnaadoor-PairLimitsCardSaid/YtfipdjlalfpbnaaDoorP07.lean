/-
  Walks and plain words for PairLimits (texts Gl, Nl, Gn, Gq). No condition beyond those that each theorem states.
-/
import Derived.Test.YtfipdjlalfpbnaaDoorP06
namespace Go.Proofs.YtfipdjlalfpbnaaDoor
section
open Go.RowKit Go.Deep

def nd_ (c : UInt8) : Bool := !del c
def endL (k : Int) (n : Nat) (parts : List ByteArray) (z : List UInt8) : Option (Nd × List UInt8) :=
  match z with
  | 41 :: y => if fitsV k parts.length = true then some ((k, n, [], parts), y) else none
  | _ => none
def bytesOf (l : List UInt8) : ByteArray := ⟨l.toArray⟩
/-- Behind the bracket (and the number). -/
def openL (F : List UInt8 → Option (Nd × List UInt8)) (k : Int) (n : Nat) (z : List UInt8) : Option (Nd × List UInt8) :=
  if z.head? = some 41 then endL k n [] z else F z
/-- One term, by a reader of what stands behind the bracket. -/
def tmL (F : Option (Int × Nat × List ByteArray) → List UInt8 → Option (Nd × List UInt8)) : List UInt8 → Option (Nd × List UInt8)
  | [] => none
  | c :: r =>
    if kindV c.toNat = 0 then none
    else if kindV c.toNat = 1 then some ((1, 0, [], []), r)
    else if kindV c.toNat = 2 ∨ kindV c.toNat = 3 then
      match numK (kindV c.toNat) (r.takeWhile nd_) with
      | none => none
      | some n => some ((kindV c.toNat, n, [], []), r.dropWhile nd_)
    else if kindV c.toNat = 4 then
      if (hexR (r.takeWhile nd_)).2 = 0 then some ((4, 0, (hexR (r.takeWhile nd_)).1, []), r.dropWhile nd_) else none
    else if r.head? ≠ some 40 then none
    else if numberedV (kindV c.toNat) = true then
      match numK (kindV c.toNat) (r.tail.takeWhile nd_) with
      | none => none
      | some n =>
        if (r.tail.dropWhile nd_).head? ≠ some 44 then none
        else openL (F (some (kindV c.toNat, n, []))) (kindV c.toNat) n (r.tail.dropWhile nd_).tail
    else openL (F (some (kindV c.toNat, 0, []))) (kindV c.toNat) 0 r.tail
/-- The parts, by a reader. -/
def ptL (F : Option (Int × Nat × List ByteArray) → List UInt8 → Option (Nd × List UInt8)) (k : Int) (n : Nat) (parts : List ByteArray) (z : List UInt8) : Option (Nd × List UInt8) :=
  match F none z with
  | none => none
  | some (_, y) =>
    if k = 6 ∧ parts.length = 1 ∧ gtB (parts.getLastD ByteArray.empty) (bytesOf (z.take (z.length - y.length))) = true then none
    else if y.head? = some 44 then F (some (k, n, parts ++ [bytesOf (z.take (z.length - y.length))])) y.tail
    else endL k n (parts ++ [bytesOf (z.take (z.length - y.length))]) y
/-- The reader over what is left of the text. -/
def rdL : Nat → Option (Int × Nat × List ByteArray) → List UInt8 → Option (Nd × List UInt8)
  | 0, _, _ => none
  | f + 1, none, z => tmL (fun m z => rdL f m z) z
  | f + 1, some (k, n, parts), z => ptL (fun m z => rdL f m z) k n parts z
theorem rdL_none (f : Nat) (z : List UInt8) : rdL (f + 1) none z = tmL (rdL f) z := rfl
theorem rdL_some (f : Nat) (k : Int) (n : Nat) (parts : List ByteArray) (z : List UInt8) : rdL (f + 1) (some (k, n, parts)) z = ptL (rdL f) k n parts z := rfl
theorem head_app {a b : List UInt8} (h : a ≠ []) : (a ++ b).head? = a.head? := by
  cases a with
  | nil => exact absurd rfl h
  | cons c r => rfl

def dl (y : List UInt8) : Prop := y = [] ∨ ∃ c r, y = c :: r ∧ del c = true
theorem dl_cons {c : UInt8} {r : List UInt8} (h : del c = true) : dl (c :: r) := .inr ⟨c, r, rfl, h⟩
theorem tw_dl (w y : List UInt8) (hw : w.all nd_ = true) (hy : dl y) : (w ++ y).takeWhile nd_ = w ∧ (w ++ y).dropWhile nd_ = y := by
  induction w with
  | nil =>
    rcases hy with rfl | ⟨c, r, rfl, hc⟩
    · exact ⟨rfl, rfl⟩
    · have : nd_ c = false := by unfold nd_; rw [hc]; rfl
      simp [this]
  | cons c w ih =>
    simp only [List.all_cons, Bool.and_eq_true] at hw
    obtain ⟨h1, h2⟩ := ih hw.2
    simp [hw.1, h1, h2]
theorem tw_all (l : List UInt8) : (l.takeWhile nd_).all nd_ = true := by
  induction l with
  | nil => rfl
  | cons c r ih =>
    by_cases h : nd_ c = true
    · rw [List.takeWhile_cons_of_pos h]; simp [h, ih]
    · rw [List.takeWhile_cons_of_neg h]; rfl
theorem tw_split (l : List UInt8) : l = l.takeWhile nd_ ++ l.dropWhile nd_ := (List.takeWhile_append_dropWhile).symm
theorem endL_some {k : Int} {n : Nat} {parts : List ByteArray} {z y : List UInt8} {r : Nd} (h : endL k n parts z = some (r, y)) : z = 41 :: y ∧ fitsV k parts.length = true ∧ r = (k, n, [], parts) := by
  unfold endL at h
  split at h
  · split at h
    · rename_i hf
      simp only [Option.some.injEq, Prod.mk.injEq] at h
      exact ⟨by rw [h.2], hf, h.1.symm⟩
    · cases h
  · cases h
theorem endL_mk {k : Int} {n : Nat} {parts : List ByteArray} (y : List UInt8) (h : fitsV k parts.length = true) : endL k n parts (41 :: y) = some ((k, n, [], parts), y) := by
  unfold endL
  simp only
  rw [if_pos h]
theorem head_tail {l : List UInt8} {c : UInt8} (h : l.head? = some c) : l = c :: l.tail := by
  cases l with
  | nil => cases h
  | cons a r => simp at h; rw [h]; rfl
theorem tmL_num (F : Option (Int × Nat × List ByteArray) → List UInt8 → Option (Nd × List UInt8)) (c : UInt8) (w z1 : List UInt8) (n : Nat) (h5 : 5 ≤ kindV c.toNat) (hnb : numberedV (kindV c.toNat) = true)
    (hw : w.all nd_ = true) (hn : numK (kindV c.toNat) w = some n) : tmL F (c :: 40 :: (w ++ 44 :: z1)) = openL (F (some (kindV c.toNat, n, []))) (kindV c.toNat) n z1 := by
  obtain ⟨t1, t2⟩ := tw_dl w (44 :: z1) hw (dl_cons (by decide))
  rw [tmL, if_neg (by omega), if_neg (by omega), if_neg (by omega), if_neg (by omega), if_neg (fun h => h rfl), if_pos hnb, List.tail_cons, t1, t2, hn]
  exact if_neg (fun h => h rfl)
theorem tmL_bare (F : Option (Int × Nat × List ByteArray) → List UInt8 → Option (Nd × List UInt8)) (c : UInt8) (z1 : List UInt8) (h5 : 5 ≤ kindV c.toNat) (hnb : numberedV (kindV c.toNat) = false) :
    tmL F (c :: 40 :: z1) = openL (F (some (kindV c.toNat, 0, []))) (kindV c.toNat) 0 z1 := by
  rw [tmL, if_neg (by omega), if_neg (by omega), if_neg (by omega), if_neg (by omega), if_neg (fun h => h rfl), if_neg (by rw [hnb]; decide)]
  rfl
/-- What was read does not depend on what stands behind it, nor on the fuel. -/
theorem rdL_local : ∀ (f : Nat) (m : Option (Int × Nat × List ByteArray)) (z : List UInt8) (nd : Nd) (y : List UInt8), rdL f m z = some (nd, y) →
    ∃ x, z = x ++ y ∧ x ≠ [] ∧ x.head? ≠ some 41 ∧ ∀ y' g, dl y' → 2 * x.length ≤ g → rdL g m (x ++ y') = some (nd, y') := by
  intro f
  induction f with
  | zero => intro m z nd y h; cases h
  | succ f ih =>
    intro m z nd y h
    cases m with
    | none =>
      rw [rdL_none] at h
      cases z with
      | nil => cases h
      | cons c r =>
        rw [tmL] at h
        split at h
        · cases h
        rename_i h0
        have hc41 : c ≠ 41 := by intro e; subst e; exact h0 (by decide)
        split at h
        · rename_i h1
          simp only [Option.some.injEq, Prod.mk.injEq] at h
          obtain ⟨rfl, rfl⟩ := h
          refine ⟨[c], rfl, by simp, by simpa using hc41, fun y' g _ hg => ?_⟩
          obtain ⟨g, rfl⟩ : ∃ g', g = g' + 1 := ⟨g - 1, by simp at hg; omega⟩
          rw [rdL_none, List.singleton_append, tmL]
          rw [if_neg h0, if_pos h1]
        rename_i h1
        split at h
        · rename_i h23
          split at h
          · cases h
          · rename_i n hn
            simp only [Option.some.injEq, Prod.mk.injEq] at h
            obtain ⟨rfl, rfl⟩ := h
            refine ⟨c :: r.takeWhile nd_, by rw [List.cons_append, ← tw_split], by simp, by simpa using hc41, fun y' g hy hg => ?_⟩
            obtain ⟨g, rfl⟩ : ∃ g', g = g' + 1 := ⟨g - 1, by simp at hg; omega⟩
            obtain ⟨e1, e2⟩ := tw_dl _ y' (tw_all r) hy
            rw [rdL_none, List.cons_append, tmL]
            rw [if_neg h0, if_neg h1, if_pos h23, e1, hn, e2]
        rename_i h23
        split at h
        · rename_i h4
          split at h
          · rename_i hx
            simp only [Option.some.injEq, Prod.mk.injEq] at h
            obtain ⟨rfl, rfl⟩ := h
            refine ⟨c :: r.takeWhile nd_, by rw [List.cons_append, ← tw_split], by simp, by simpa using hc41, fun y' g hy hg => ?_⟩
            obtain ⟨g, rfl⟩ : ∃ g', g = g' + 1 := ⟨g - 1, by simp at hg; omega⟩
            obtain ⟨e1, e2⟩ := tw_dl _ y' (tw_all r) hy
            rw [rdL_none, List.cons_append, tmL]
            rw [if_neg h0, if_neg h1, if_neg h23, if_pos h4, e1, if_pos hx, e2]
          · cases h
        rename_i h4
        split at h
        · cases h
        rename_i h40
        have h40' : r.head? = some 40 := Decidable.byContradiction h40
        have hr := head_tail h40'
        have hopen : ∀ (n : Nat) (z1 : List UInt8), openL (rdL f (some (kindV c.toNat, n, []))) (kindV c.toNat) n z1 = some (nd, y) →
            ∃ x1, z1 = x1 ++ y ∧ x1 ≠ [] ∧ ∀ y' g, dl y' → 2 * x1.length ≤ g → openL (rdL g (some (kindV c.toNat, n, []))) (kindV c.toNat) n (x1 ++ y') = some (nd, y') := by
          intro n z1 h1
          unfold openL at h1
          split at h1
          · obtain ⟨e1, e2, e3⟩ := endL_some h1
            refine ⟨[41], e1, by simp, fun y' g _ _ => ?_⟩
            unfold openL
            rw [if_pos (by simp), e3]
            exact endL_mk y' e2
          · obtain ⟨x1, e1, e2, e3, e4⟩ := ih _ _ _ _ h1
            refine ⟨x1, e1, e2, fun y' g hy hg => ?_⟩
            unfold openL
            rw [if_neg (by rw [head_app e2]; exact e3)]
            exact e4 y' g hy hg
        split at h
        · rename_i hnb
          split at h
          · cases h
          · rename_i n hn
            split at h
            · cases h
            · rename_i h44
              have h44' : (r.tail.dropWhile nd_).head? = some 44 := Decidable.byContradiction h44
              obtain ⟨x1, e1, e2, e3⟩ := hopen _ _ h
              have hz : c :: r = (c :: 40 :: (r.tail.takeWhile nd_ ++ 44 :: x1)) ++ y := by
                rw [List.cons_append, List.cons_append, List.append_assoc, List.cons_append, ← e1, ← head_tail h44', ← tw_split, ← hr]
              refine ⟨_, hz, by simp, by simpa using hc41, fun y' g hy hg => ?_⟩
              obtain ⟨g, rfl⟩ : ∃ g', g = g' + 1 := ⟨g - 1, by simp at hg; omega⟩
              rw [rdL_none, List.cons_append, List.cons_append, List.append_assoc, List.cons_append, tmL_num _ c _ _ n (by have := kind_le (c.toNat : Int); omega) hnb (tw_all _) hn]
              exact e3 y' g hy (by simp at hg; omega)
        · rename_i hnb
          obtain ⟨x1, e1, e2, e3⟩ := hopen _ _ h
          have hz : c :: r = (c :: 40 :: x1) ++ y := by
            rw [List.cons_append, List.cons_append, ← e1, ← hr]
          refine ⟨_, hz, by simp, by simpa using hc41, fun y' g hy hg => ?_⟩
          obtain ⟨g, rfl⟩ : ∃ g', g = g' + 1 := ⟨g - 1, by simp at hg; omega⟩
          rw [rdL_none, List.cons_append, List.cons_append, tmL_bare _ c _ (by have := kind_le (c.toNat : Int); omega) (by simpa using hnb)]
          exact e3 y' g hy (by simp at hg; omega)
    | some kp =>
      obtain ⟨k, n, parts⟩ := kp
      rw [rdL_some] at h
      unfold ptL at h
      split at h
      · cases h
      · rename_i nd1 z1 hq
        obtain ⟨x1, e1, e2, e3, e4⟩ := ih _ _ _ _ hq
        have hpart : z.take (z.length - z1.length) = x1 := by
          rw [e1, List.length_append, Nat.add_sub_cancel, List.take_left']
          rfl
        rw [hpart] at h
        split at h
        · cases h
        rename_i hgt
        split at h
        · rename_i h44
          obtain ⟨x2, d1, d2, d3, d4⟩ := ih _ _ _ _ h
          have hz1 := head_tail h44
          refine ⟨x1 ++ 44 :: x2, by rw [e1, List.append_assoc, List.cons_append, ← d1, ← hz1], by simp, by rw [head_app e2]; exact e3, fun y' g hy hg => ?_⟩
          obtain ⟨g, rfl⟩ : ∃ g', g = g' + 1 := ⟨g - 1, by simp at hg; omega⟩
          have hx1 : 1 ≤ x1.length := by cases x1 with | nil => exact absurd rfl e2 | cons a b => simp
          rw [rdL_some]
          unfold ptL
          rw [List.append_assoc, List.cons_append, e4 (44 :: (x2 ++ y')) g (dl_cons (by decide)) (by simp at hg; omega)]
          have hp2 : (x1 ++ 44 :: (x2 ++ y')).take ((x1 ++ 44 :: (x2 ++ y')).length - (44 :: (x2 ++ y')).length) = x1 := by
            rw [List.length_append, Nat.add_sub_cancel, List.take_left']
            rfl
          simp only
          rw [hp2, if_neg hgt, if_pos (by rfl)]
          exact d4 y' g hy (by simp at hg; omega)
        · rename_i h44
          obtain ⟨d1, d2, d3⟩ := endL_some h
          refine ⟨x1 ++ [41], by rw [e1, d1]; simp, by simp, by rw [head_app e2]; exact e3, fun y' g hy hg => ?_⟩
          obtain ⟨g, rfl⟩ : ∃ g', g = g' + 1 := ⟨g - 1, by simp at hg; omega⟩
          have hx1 : 1 ≤ x1.length := by cases x1 with | nil => exact absurd rfl e2 | cons a b => simp
          rw [rdL_some]
          unfold ptL
          rw [List.append_assoc, List.singleton_append, e4 (41 :: y') g (dl_cons (by decide)) (by simp at hg; omega)]
          have hp2 : (x1 ++ 41 :: y').take ((x1 ++ 41 :: y').length - (41 :: y').length) = x1 := by
            rw [List.length_append, Nat.add_sub_cancel, List.take_left']
            rfl
          simp only
          rw [hp2, if_neg hgt, if_neg (by simp), d3]
          exact endL_mk y' d2
theorem peek_head (s : ByteArray) (p : Nat) (c : UInt8) : peekV s p (c.toNat : Int) = decide ((s.data.toList.drop p).head? = some c) := by
  unfold peekV
  split
  · rename_i h
    rw [drop_at s p h, Bool.eq_iff_iff]
    simp only [List.head?_cons, Option.some.injEq, beq_iff_eq, decide_eq_true_eq]
    constructor
    · intro e; exact UInt8.toNat_inj.1 (by omega)
    · intro e; rw [e]
  · rename_i h
    rw [List.drop_of_length_le (by simpa using h)]
    simp
theorem rdL_suf {f : Nat} {m : Option (Int × Nat × List ByteArray)} {z : List UInt8} {nd : Nd} {y : List UInt8} (h : rdL f m z = some (nd, y)) : ∃ x, z = x ++ y ∧ x ≠ [] := by
  obtain ⟨x, e, e2, _⟩ := rdL_local f m z nd y h
  exact ⟨x, e, e2⟩
theorem drop_suf {s : ByteArray} {p : Nat} {x y : List UInt8} (hp : p ≤ s.size) (h : s.data.toList.drop p = x ++ y) : s.data.toList.drop (s.size - y.length) = y ∧ s.size - y.length = p + x.length ∧ p + x.length + y.length = s.size := by
  have hl := congrArg List.length h
  rw [List.length_drop, List.length_append] at hl
  have hsz : s.data.toList.length = s.size := rfl
  have e : s.size - y.length = p + x.length := by omega
  refine ⟨?_, e, by omega⟩
  rw [e, ← List.drop_drop, h, List.drop_left']
  rfl
def toP (s : ByteArray) (x : Option (Nd × List UInt8)) : Option (Nd × Nat) := x.map fun r => (r.1, s.size - r.2.length)
theorem word_at (s : ByteArray) (p : Nat) (hp : p ≤ s.size) : (s.extract p (wend s p)).data.toList = (s.data.toList.drop p).takeWhile nd_ ∧ s.data.toList.drop (wend s p) = (s.data.toList.drop p).dropWhile nd_ ∧ s.size - ((s.data.toList.drop p).dropWhile nd_).length = wend s p := by
  have h1 : (s.extract p (wend s p)).data.toList = (s.data.toList.drop p).takeWhile nd_ := by
    unfold wend
    rw [ext_take, take_while_take]
    rfl
  have hs := tw_split (s.data.toList.drop p)
  obtain ⟨a, b, c⟩ := drop_suf hp hs
  have hw : wend s p = s.size - ((s.data.toList.drop p).dropWhile nd_).length := by
    rw [b]; rfl
  exact ⟨h1, by rw [hw]; exact a, hw.symm⟩
theorem endL_P (s : ByteArray) (k : Int) (n : Nat) (parts : List ByteArray) (p : Nat) (hp : p ≤ s.size) : rdEnd s k n parts p = toP s (endL k n parts (s.data.toList.drop p)) := by
  unfold rdEnd
  rw [show (41 : Int) = (((41 : UInt8).toNat : Nat) : Int) from rfl, peek_head]
  by_cases h : (s.data.toList.drop p).head? = some 41
  · rw [if_pos (decide_eq_true h)]
    have e := head_tail h
    obtain ⟨_, b, c⟩ := drop_suf (x := [41]) (y := (s.data.toList.drop p).tail) hp e
    rw [e]
    unfold endL
    simp only
    split
    · unfold toP
      simp only [Option.map_some]
      rw [b]
      rfl
    · rfl
  · rw [if_neg (show ¬ (decide ((s.data.toList.drop p).head? = some (41 : UInt8)) = true) by rw [decide_eq_false h]; decide)]
    unfold endL
    split
    · rename_i e
      rw [e] at h
      exact absurd rfl h
    · rfl
theorem rd_rdL (s : ByteArray) : ∀ (f : Nat) (m : Option (Int × Nat × List ByteArray)) (p : Nat), p ≤ s.size → rd s f m p = toP s (rdL f m (s.data.toList.drop p)) := by
  intro f
  induction f with
  | zero => intro m p _; rfl
  | succ f ih =>
    intro m p hp
    have hopen : ∀ (k : Int) (n : Nat) (j : Nat), j ≤ s.size → (if peekV s j 41 = true then rdEnd s k n [] j else rd s f (some (k, n, [])) j) = toP s (openL (rdL f (some (k, n, []))) k n (s.data.toList.drop j)) := by
      intro k n j hj
      rw [show (41 : Int) = (((41 : UInt8).toNat : Nat) : Int) from rfl, peek_head]
      unfold openL
      by_cases h : (s.data.toList.drop j).head? = some 41
      · rw [if_pos (decide_eq_true h), if_pos h]
        exact endL_P s k n [] j hj
      · rw [if_neg (show ¬ (decide ((s.data.toList.drop j).head? = some (41 : UInt8)) = true) by rw [decide_eq_false h]; decide), if_neg h]
        exact ih _ _ hj
    cases m with
    | none =>
      rw [rd, rdL_none]
      by_cases hlt : p < s.size
      · rw [dif_pos hlt, drop_at s p hlt, tmL]
        have hkr := kind_le (s[p].toNat : Int)
        generalize kindV (s[p].toNat : Int) = k at *
        obtain ⟨w1, w2, w3⟩ := word_at s (p + 1) (by omega)
        split
        · rfl
        · split
          · unfold toP
            simp only [Option.map_some]
            congr 2
            rw [List.length_drop]
            have hsz : s.data.toList.length = s.size := rfl
            omega
          · split
            · rw [w1]
              cases numK k ((s.data.toList.drop (p + 1)).takeWhile nd_) with
              | none => rfl
              | some n =>
                unfold toP
                simp only [Option.map_some]
                rw [w3]
            · split
              · rw [w1]
                split
                · unfold toP
                  simp only [Option.map_some]
                  rw [w3]
                · rfl
              · rw [show (40 : Int) = (((40 : UInt8).toNat : Nat) : Int) from rfl, peek_head]
                by_cases h40 : (s.data.toList.drop (p + 1)).head? = some 40
                · rw [if_neg (show ¬ (decide ((s.data.toList.drop (p + 1)).head? = some (40 : UInt8)) = false) by rw [decide_eq_true h40]; decide), if_neg (show ¬ ((s.data.toList.drop (p + 1)).head? ≠ some 40) from fun h => h h40)]
                  have hlt2 : p + 1 < s.size := by
                    apply Decidable.byContradiction
                    intro h
                    rw [List.drop_of_length_le (by have hsz : s.data.toList.length = s.size := rfl; omega)] at h40
                    cases h40
                  have ht : (s.data.toList.drop (p + 1)).tail = s.data.toList.drop (p + 2) := by rw [drop_at s (p + 1) hlt2]; rfl
                  rw [ht]
                  obtain ⟨v1, v2, v3⟩ := word_at s (p + 2) (by omega)
                  split
                  · rw [v1]
                    cases numK k ((s.data.toList.drop (p + 2)).takeWhile nd_) with
                    | none => rfl
                    | some n =>
                      simp only
                      rw [show (44 : Int) = (((44 : UInt8).toNat : Nat) : Int) from rfl, peek_head, v2]
                      by_cases h44 : ((s.data.toList.drop (p + 2)).dropWhile nd_).head? = some 44
                      · rw [if_neg (show ¬ (decide (((s.data.toList.drop (p + 2)).dropWhile nd_).head? = some (44 : UInt8)) = false) by rw [decide_eq_true h44]; decide), if_neg (show ¬ (((s.data.toList.drop (p + 2)).dropWhile nd_).head? ≠ some 44) from fun h => h h44)]
                        have hlt3 : wend s (p + 2) < s.size := by
                          apply Decidable.byContradiction
                          intro h
                          rw [← v2, List.drop_of_length_le (by have hsz : s.data.toList.length = s.size := rfl; omega)] at h44
                          cases h44
                        have ht3 : ((s.data.toList.drop (p + 2)).dropWhile nd_).tail = s.data.toList.drop (wend s (p + 2) + 1) := by rw [← v2, drop_at s _ hlt3]; rfl
                        rw [ht3]
                        exact hopen _ _ _ (by omega)
                      · rw [if_pos (show decide (((s.data.toList.drop (p + 2)).dropWhile nd_).head? = some (44 : UInt8)) = false from decide_eq_false h44), if_pos h44]
                        rfl
                  · exact hopen _ _ _ (by omega)
                · rw [if_pos (show decide ((s.data.toList.drop (p + 1)).head? = some (40 : UInt8)) = false from decide_eq_false h40), if_pos h40]
                  rfl
      · rw [dif_neg hlt, List.drop_of_length_le (by simpa using hlt)]
        rfl
    | some kp =>
      obtain ⟨k, n, parts⟩ := kp
      rw [rd_some, rdL_some, ih none p hp]
      unfold ptL
      cases hq : rdL f none (s.data.toList.drop p) with
      | none => rfl
      | some r =>
        obtain ⟨nd, y⟩ := r
        obtain ⟨x, e, _⟩ := rdL_suf hq
        obtain ⟨a, b, c⟩ := drop_suf hp e
        have hpart : bytesOf ((s.data.toList.drop p).take ((s.data.toList.drop p).length - y.length)) = s.extract p (s.size - y.length) := by
          have h1 : (s.extract p (s.size - y.length)).data.toList = (s.data.toList.drop p).take ((s.data.toList.drop p).length - y.length) := by
            rw [b, ext_take]
            congr 1
            rw [e, List.length_append]
            omega
          rw [← h1]
          exact ByteArray.ext (Array.toArray_toList)
        show (if _ then _ else _) = toP s (if _ then _ else _)
        simp only
        rw [hpart]
        generalize s.extract p (s.size - y.length) = part
        by_cases hg : k = 6 ∧ parts.length = 1 ∧ gtB (parts.getLastD ByteArray.empty) part = true
        · rw [if_pos hg, if_pos hg]; rfl
        · rw [if_neg hg, if_neg hg]
          rw [show (44 : Int) = (((44 : UInt8).toNat : Nat) : Int) from rfl, peek_head, a]
          by_cases h44 : y.head? = some 44
          · rw [if_pos (decide_eq_true h44), if_pos h44]
            have hlt : s.size - y.length < s.size := by
              have := head_tail h44
              have hl := congrArg List.length this
              simp at hl
              omega
            have ht : y.tail = s.data.toList.drop (s.size - y.length + 1) := by
              have h := congrArg List.tail a
              rw [drop_at s _ hlt] at h
              exact h.symm
            rw [ht]
            exact ih _ _ (by omega)
          · rw [if_neg (show ¬ (decide (y.head? = some (44 : UInt8)) = true) by rw [decide_eq_false h44]; decide), if_neg h44]
            have h := endL_P s k n (parts ++ [part]) (s.size - y.length) (by omega)
            rw [a] at h
            exact h
/-- A text as a term as a whole, over lists. -/
def whole (x : Option (Nd × List UInt8)) : Option Nd :=
  match x with
  | some (nd, []) => some nd
  | _ => none
theorem parse_list (s : ByteArray) : parseV s = if 65536 < s.size then none else whole (rdL (2 * s.size + 2) none s.data.toList) := by
  unfold parseV
  split
  · rfl
  · rw [rd_rdL s _ _ 0 (by omega), List.drop_zero]
    cases hq : rdL (2 * s.size + 2) none s.data.toList with
    | none => rfl
    | some r =>
      obtain ⟨nd, y⟩ := r
      obtain ⟨x, e, _⟩ := rdL_suf hq
      have hl := congrArg List.length e
      rw [List.length_append] at hl
      have hsz : s.data.toList.length = s.size := rfl
      show (if s.size - y.length = s.size then some nd else none) = _
      cases y with
      | nil => rw [if_pos (by simp)]; rfl
      | cons c r => rw [if_neg (by simp at hl ⊢; omega)]; rfl
end
section
open Go.RowKit Go.Deep

theorem accN_append : ∀ (l m : List UInt8) (u : Nat), accN (l ++ m) u = (accN l u).bind (accN m)
  | [], m, u => rfl
  | c :: r, m, u => by
    rw [List.cons_append, accN, accN]
    split
    · rfl
    · exact accN_append r m _
theorem dgt_nat (n : Nat) (h : n < 10) : (UInt8.ofNat (48 + n)).toNat = 48 + n := by rw [UInt8.toNat_ofNat']; omega
theorem accN_one (n v : Nat) (h : n < 10) (hv : v * 10 + n < 18446744073709551616) : accN [UInt8.ofNat (48 + n)] v = some (v * 10 + n) := by
  rw [accN, dgt_nat n h, if_neg (by omega), accN]
  simp
theorem accN_dec (u : Nat) (hu : u < 18446744073709551616) : accN (Lib.decDigits u) 0 = some u := by
  induction u using Nat.strongRecOn with
  | ind u ih =>
    by_cases h : u < 10
    · rw [Lib.decDigits_one h, accN_one u 0 h (by omega)]
      simp
    · rw [dec_split u h, accN_append, ih (u / 10) (by omega) (by omega)]
      show accN _ (u / 10) = _
      rw [accN_one (u % 10) (u / 10) (by omega) (by omega)]
      congr 1
      omega
theorem dec_dig (u : Nat) : (Lib.decDigits u).all digB = true := by
  have hone : ∀ n : Nat, n < 10 → [UInt8.ofNat (48 + n)].all digB = true := fun n h => by
    simp only [List.all_cons, List.all_nil, Bool.and_true]
    unfold digB
    rw [dgt_nat n h]
    simp
    omega
  induction u using Nat.strongRecOn with
  | ind u ih =>
    by_cases h : u < 10
    · rw [Lib.decDigits_one h]; exact hone u h
    · rw [dec_split u h, List.all_append, ih (u / 10) (by omega), hone _ (by omega)]; rfl
theorem dec_ne (u : Nat) : Lib.decDigits u ≠ [] := by
  by_cases h : u < 10
  · rw [Lib.decDigits_one h]; simp
  · rw [dec_split u h]; simp
theorem dec_head (u : Nat) (h0 : 0 < u) : (Lib.decDigits u).head? ≠ some 48 := by
  induction u using Nat.strongRecOn with
  | ind u ih =>
    by_cases h : u < 10
    · rw [Lib.decDigits_one h]
      intro e
      have e2 : UInt8.ofNat (48 + u) = 48 := by simpa using e
      have e3 := congrArg UInt8.toNat e2
      rw [dgt_nat u h] at e3
      have : (48 : UInt8).toNat = 48 := rfl
      omega
    · rw [dec_split u h, List.head?_append]
      have := ih (u / 10) (by omega) (by omega)
      cases hh : (Lib.decDigits (u / 10)).head? with
      | none => rw [List.head?_eq_none_iff] at hh; exact absurd hh (dec_ne _)
      | some x => rw [hh] at this; exact this
theorem numR_dec (u : Nat) (hu : u < 18446744073709551616) : numR (Lib.decDigits u) = (u, 0) := by
  unfold numR
  rw [if_neg (dec_ne u), if_neg (by rw [dec_dig u]; simp), if_neg, accN_dec u hu]
  rintro ⟨h1, h2⟩
  rcases Nat.eq_zero_or_pos u with h | h
  · subst h; rw [Lib.decDigits_one (by omega)] at h2; simp at h2
  · exact dec_head u h h1
theorem dig_back (c : UInt8) (h : digB c = true) : UInt8.ofNat (48 + (c.toNat - 48)) = c := by
  unfold digB at h
  simp only [Bool.and_eq_true, decide_eq_true_eq] at h
  rw [show 48 + (c.toNat - 48) = c.toNat by omega]
  exact UInt8.ofNat_toNat
theorem accN_back : ∀ (l : List UInt8) (v u : Nat), 0 < v → l.all digB = true → accN l v = some u → Lib.decDigits u = Lib.decDigits v ++ l
  | [], v, u, _, _, h => by
    simp only [accN, Option.some.injEq] at h
    rw [h, List.append_nil]
  | c :: r, v, u, hv, hd, h => by
    simp only [List.all_cons, Bool.and_eq_true] at hd
    rw [accN] at h
    split at h
    · cases h
    · have hc := hd.1
      unfold digB at hc
      simp only [Bool.and_eq_true, decide_eq_true_eq] at hc
      have := accN_back r _ u (by omega) hd.2 h
      rw [this, dec_split _ (by omega), show (v * 10 + (c.toNat - 48)) / 10 = v by omega, show (v * 10 + (c.toNat - 48)) % 10 = c.toNat - 48 by omega, dig_back c hd.1, List.append_assoc]
      rfl
theorem numR_back (l : List UInt8) (h : (numR l).2 = 0) : Lib.decDigits (numR l).1 = l := by
  unfold numR at h ⊢
  split
  · rename_i h1; rw [if_pos h1] at h; cases h
  · rename_i h1
    rw [if_neg h1] at h
    split
    · rename_i h2; rw [if_pos h2] at h; cases h
    · rename_i h2
      rw [if_neg h2] at h
      split
      · rename_i h3; rw [if_pos h3] at h; cases h
      · rename_i h3
        rw [if_neg h3] at h
        cases hA : accN l 0 with
        | none => rw [hA] at h; cases h
        | some u =>
          show Lib.decDigits u = l
          cases l with
          | nil => exact absurd rfl h1
          | cons c r =>
            have hd : (c :: r).all digB = true := by simpa using h2
            simp only [List.all_cons, Bool.and_eq_true] at hd
            rw [accN] at hA
            split at hA
            · cases hA
            · have hc := hd.1
              unfold digB at hc
              simp only [Bool.and_eq_true, decide_eq_true_eq] at hc
              rw [Nat.zero_mul, Nat.zero_add] at hA
              rcases Nat.eq_zero_or_pos (c.toNat - 48) with hz | hz
              · have hc48 : c = 48 := UInt8.toNat_inj.1 (by have : (48 : UInt8).toNat = 48 := rfl; omega)
                have hr : r = [] := by
                  cases r with
                  | nil => rfl
                  | cons d t => exact absurd ⟨by rw [hc48]; rfl, by simp⟩ h3
                subst hr
                rw [hz] at hA
                simp only [accN, Option.some.injEq] at hA
                subst hA
                rw [Lib.decDigits_one (by omega), hc48]
                rfl
              · rw [accN_back r _ u hz hd.2 hA, Lib.decDigits_one (by omega), dig_back c hd.1]
                rfl

theorem hd_hex (n : Nat) (h : n < 16) : hexB (hd n) = true ∧ nib (hd n) = n := (hd_eq n h (hd n)).1 rfl
theorem hd_nib (c : UInt8) (h : hexB c = true) : hd (nib c) = c := UInt8.toNat_inj.1 ((hd_eq (nib c) (nib_lt c) c).2 ⟨h, rfl⟩)
theorem hexS_hex : ∀ l : List UInt8, (hexS l).all hexB = true
  | [] => rfl
  | b :: r => by
    have := b.toNat_lt
    simp only [hexS, List.all_cons, (hd_hex (b.toNat / 16) (by omega)).1, (hd_hex (b.toNat % 16) (by omega)).1, hexS_hex r, Bool.and_self]
theorem hexP_hexS : ∀ l : List UInt8, hexP (hexS l) = l
  | [] => rfl
  | b :: r => by
    have := b.toNat_lt
    rw [hexS, hexP, hexP_hexS r, (hd_hex (b.toNat / 16) (by omega)).2, (hd_hex (b.toNat % 16) (by omega)).2, show 16 * (b.toNat / 16) + b.toNat % 16 = b.toNat by omega]
    congr 1
    exact UInt8.ofNat_toNat
theorem hexR_hexS (l : List UInt8) : hexR (hexS l) = (l, 0) := by
  unfold hexR
  rw [if_neg (by rw [hexS_hex l]; simp), if_neg (by rw [hexS_length l]; omega), hexP_hexS l]
theorem hexS_hexP : ∀ l : List UInt8, l.all hexB = true → l.length % 2 = 0 → hexS (hexP l) = l
  | [], _, _ => rfl
  | [a], _, h => by simp at h
  | a :: b :: r, hh, h => by
    simp only [List.all_cons, Bool.and_eq_true] at hh
    have ha := nib_lt a
    have hb := nib_lt b
    have hx : (UInt8.ofNat (16 * nib a + nib b)).toNat = 16 * nib a + nib b := by rw [UInt8.toNat_ofNat']; omega
    rw [hexP, hexS, hx, show (16 * nib a + nib b) / 16 = nib a by omega, show (16 * nib a + nib b) % 16 = nib b by omega, hd_nib a hh.1, hd_nib b hh.2.1, hexS_hexP r hh.2.2 (by simp only [List.length_cons] at h; omega)]
theorem hexR_back (l : List UInt8) (h : (hexR l).2 = 0) : hexS (hexR l).1 = l := by
  unfold hexR at h ⊢
  split
  · rename_i h1; rw [if_pos h1] at h; cases h
  · rename_i h1
    rw [if_neg h1] at h
    split
    · rename_i h2; rw [if_pos h2] at h; cases h
    · rename_i h2
      exact hexS_hexP l (by simpa using h1) (by omega)
end
section
open Go.RowKit Go.Deep

/-- The letter of a kind. -/
def letU (k : Int) : UInt8 := if k = 1 then 48 else if k = 2 then 97 else if k = 3 then 110 else if k = 4 then 120 else if k = 5 then 112 else if k = 6 then 100 else if k = 7 then 104 else if k = 8 then 107 else if k = 9 then 109 else if k = 10 then 115 else if k = 11 then 108 else 0
theorem kind_let (k : Int) (h : 1 ≤ k) (h2 : k ≤ 11) : kindV (letU k).toNat = k := by
  rcases (show k = 1 ∨ k = 2 ∨ k = 3 ∨ k = 4 ∨ k = 5 ∨ k = 6 ∨ k = 7 ∨ k = 8 ∨ k = 9 ∨ k = 10 ∨ k = 11 by omega) with rfl | rfl | rfl | rfl | rfl | rfl | rfl | rfl | rfl | rfl | rfl
  all_goals rfl
theorem let_kind (c : UInt8) (h : kindV c.toNat ≠ 0) : letU (kindV c.toNat) = c := by
  have key : ∀ n : Nat, ((c.toNat : Int) = n) → n < 256 → c = UInt8.ofNat n := by
    intro n e hn
    apply UInt8.toNat_inj.1
    rw [UInt8.toNat_ofNat']
    omega
  unfold kindV at h ⊢
  repeat' split
  all_goals first
    | (rename_i e; rw [key _ e (by decide)]; rfl)
    | (simp_all; done)
def joinL : List ByteArray → List UInt8
  | [] => []
  | [a] => a.data.toList
  | a :: b :: r => a.data.toList ++ 44 :: joinL (b :: r)
/-- The text of a term. -/
noncomputable def txtL (k : Int) (n : Nat) (b : List UInt8) (l : List ByteArray) : List UInt8 :=
  letU k :: (if k = 2 ∨ k = 3 then Lib.decDigits n else if k = 4 then hexS b else if k ≤ 4 then [] else
    40 :: ((if numberedV k = true then Lib.decDigits n ++ (if l = [] then [] else [44]) else []) ++ (joinL l ++ [41])))
def isT (l : List UInt8) : Prop := ∃ nd, rdL (2 * l.length) none l = some (nd, [])
theorem isT_ne {l : List UInt8} (h : isT l) : l ≠ [] ∧ l.head? ≠ some 41 := by
  obtain ⟨nd, h⟩ := h
  obtain ⟨x, e, e2, e3, _⟩ := rdL_local _ _ _ _ _ h
  rw [List.append_nil] at e
  subst e
  exact ⟨e2, e3⟩
theorem isT_on {l : List UInt8} (h : isT l) : ∃ nd, ∀ y g, dl y → 2 * l.length ≤ g → rdL g none (l ++ y) = some (nd, y) := by
  obtain ⟨nd, h⟩ := h
  obtain ⟨x, e, e2, e3, e4⟩ := rdL_local _ _ _ _ _ h
  rw [List.append_nil] at e
  subst e
  exact ⟨nd, e4⟩
theorem isT_of {f : Nat} {z y : List UInt8} {nd : Nd} (h : rdL f none z = some (nd, y)) : ∃ x, z = x ++ y ∧ isT x ∧ x ≠ [] := by
  obtain ⟨x, e, e2, e3, e4⟩ := rdL_local _ _ _ _ _ h
  refine ⟨x, e, ⟨nd, ?_⟩, e2⟩
  have := e4 [] (2 * x.length) (.inl rfl) (Nat.le_refl _)
  rwa [List.append_nil] at this
theorem take_front (x y : List UInt8) : (x ++ y).take ((x ++ y).length - y.length) = x := by
  rw [List.length_append, Nat.add_sub_cancel, List.take_left']
  rfl
theorem bytesOf_data (a : ByteArray) : bytesOf a.data.toList = a := ByteArray.ext (Array.toArray_toList)
/-- Two parts of a Dh that stand in the wrong order. -/
def wrong (k : Int) (l : List ByteArray) : Prop := k = 6 ∧ l.length = 2 ∧ gtB (l.getD 0 ByteArray.empty) (l.getD 1 ByteArray.empty) = true
instance (k : Int) (l : List ByteArray) : Decidable (wrong k l) := by unfold wrong; exact inferInstance
theorem parts_on (k : Int) (n : Nat) : ∀ (l : List ByteArray) (acc : List ByteArray) (y : List UInt8) (g : Nat), l ≠ [] → (∀ p ∈ l, isT p.data.toList) → (k ≠ 6 ∨ 2 ≤ acc.length) → 2 * (joinL l).length + 2 ≤ g →
    rdL g (some (k, n, acc)) (joinL l ++ 41 :: y) = endL k n (acc ++ l) (41 :: y) := by
  intro l
  induction l with
  | nil => intro _ _ _ h; exact absurd rfl h
  | cons a r ih =>
    intro acc y g _ hT hk hg
    obtain ⟨nd, hon⟩ := isT_on (hT a List.mem_cons_self)
    have hne : (isT_ne (hT a List.mem_cons_self)).1 = (isT_ne (hT a List.mem_cons_self)).1 := rfl
    obtain ⟨g, rfl⟩ : ∃ g', g = g' + 1 := ⟨g - 1, by omega⟩
    have hk1 : ∀ part, ¬ (k = 6 ∧ acc.length = 1 ∧ gtB (acc.getLastD ByteArray.empty) part = true) := by
      rintro part ⟨h1, h2, _⟩
      rcases hk with h | h
      · exact h h1
      · omega
    cases r with
    | nil =>
      rw [joinL] at hg ⊢
      rw [rdL_some]
      unfold ptL
      rw [hon (41 :: y) g (dl_cons (by decide)) (by omega)]
      simp only
      rw [take_front, if_neg (hk1 _), if_neg (by simp), bytesOf_data]
    | cons b r =>
      rw [joinL] at hg ⊢
      rw [rdL_some]
      unfold ptL
      rw [List.append_assoc, List.cons_append, hon (44 :: (joinL (b :: r) ++ 41 :: y)) g (dl_cons (by decide)) (by rw [List.length_append] at hg; omega)]
      simp only
      rw [take_front, if_neg (hk1 _), if_pos (by rfl), bytesOf_data, List.tail_cons]
      have hpos : 1 ≤ a.data.toList.length := by
        have := (isT_ne (hT a List.mem_cons_self)).1
        cases h : a.data.toList with
        | nil => exact absurd h this
        | cons c t => simp
      rw [ih (acc ++ [a]) y g (by simp) (fun p hp => hT p (List.mem_cons_of_mem _ hp)) (by rcases hk with h | h; exact .inl h; right; rw [List.length_append]; omega) (by rw [List.length_append] at hg; simp at hg; omega)]
      rw [List.append_assoc]
      rfl
theorem fits6 (m : Nat) (h : m ≠ 2) : fitsV 6 (m : Int) = false := by
  simp only [fitsV, leastV, mostV]
  rw [Bool.eq_false_iff]
  simp
  omega
theorem parts_all (k : Int) (n : Nat) (l : List ByteArray) (y : List UInt8) (g : Nat) (hl : l ≠ []) (hT : ∀ p ∈ l, isT p.data.toList) (hg : 2 * (joinL l).length + 2 ≤ g) :
    rdL g (some (k, n, [])) (joinL l ++ 41 :: y) = if wrong k l then none else endL k n l (41 :: y) := by
  by_cases hk : k = 6
  · subst hk
    cases l with
    | nil => exact absurd rfl hl
    | cons a r =>
      obtain ⟨nd, hon⟩ := isT_on (hT a List.mem_cons_self)
      obtain ⟨g, rfl⟩ : ∃ g', g = g' + 1 := ⟨g - 1, by omega⟩
      cases r with
      | nil =>
        rw [joinL] at hg ⊢
        rw [rdL_some]
        unfold ptL
        rw [hon (41 :: y) g (dl_cons (by decide)) (by omega)]
        simp only
        rw [take_front, if_neg (by simp), if_neg (by simp), bytesOf_data, if_neg (by rintro ⟨_, h, _⟩; simp at h)]
        rfl
      | cons b r =>
        have hposa : 1 ≤ a.data.toList.length := by
          have := (isT_ne (hT a List.mem_cons_self)).1
          cases h : a.data.toList with
          | nil => exact absurd h this
          | cons c t => simp
        rw [joinL] at hg ⊢
        rw [rdL_some]
        unfold ptL
        rw [List.append_assoc, List.cons_append, hon (44 :: (joinL (b :: r) ++ 41 :: y)) g (dl_cons (by decide)) (by rw [List.length_append] at hg; omega)]
        simp only
        rw [take_front, if_neg (by simp), if_pos (by rfl), bytesOf_data, List.tail_cons, List.nil_append]
        obtain ⟨nd2, hon2⟩ := isT_on (hT b (List.mem_cons_of_mem _ List.mem_cons_self))
        rw [List.length_append] at hg
        simp only [List.length_cons] at hg
        obtain ⟨g, rfl⟩ : ∃ g', g = g' + 1 := ⟨g - 1, by omega⟩
        cases r with
        | nil =>
          rw [joinL] at hg ⊢
          rw [rdL_some]
          unfold ptL
          rw [hon2 (41 :: y) g (dl_cons (by decide)) (by omega)]
          simp only
          rw [take_front, bytesOf_data]
          by_cases hgt : gtB a b = true
          · rw [if_pos (show True ∧ [a].length = 1 ∧ gtB ([a].getLastD ByteArray.empty) b = true from ⟨trivial, rfl, hgt⟩), if_pos (show wrong 6 [a, b] from ⟨rfl, rfl, hgt⟩)]
          · rw [if_neg (show ¬ (True ∧ [a].length = 1 ∧ gtB ([a].getLastD ByteArray.empty) b = true) by rintro ⟨_, _, h⟩; exact hgt h), if_neg (show ¬ wrong 6 [a, b] by rintro ⟨_, _, h⟩; exact hgt h), if_neg (by simp)]
            rfl
        | cons c r =>
          have hposb : 1 ≤ b.data.toList.length := by
            have := (isT_ne (hT b (List.mem_cons_of_mem _ List.mem_cons_self))).1
            cases h : b.data.toList with
            | nil => exact absurd h this
            | cons c t => simp
          have hend : endL 6 n (a :: b :: c :: r) (41 :: y) = none := by
            unfold endL
            simp only
            rw [if_neg]
            rw [fits6 _ (by simp)]
            decide
          rw [if_neg (show ¬ wrong 6 (a :: b :: c :: r) by rintro ⟨_, h, _⟩; simp at h), hend]
          rw [joinL] at hg ⊢
          rw [rdL_some]
          unfold ptL
          rw [List.append_assoc, List.cons_append, hon2 (44 :: (joinL (c :: r) ++ 41 :: y)) g (dl_cons (by decide)) (by rw [List.length_append] at hg; omega)]
          simp only
          split
          · rfl
          · rw [take_front, if_pos (by rfl), bytesOf_data, List.tail_cons]
            rw [parts_on 6 n (c :: r) _ y g (by simp) (fun p hp => hT p (List.mem_cons_of_mem _ (List.mem_cons_of_mem _ hp))) (.inr (by simp)) (by rw [List.length_append] at hg; simp at hg; omega)]
            exact hend
  · rw [parts_on k n l [] y g hl hT (.inl hk) hg, if_neg (by rintro ⟨h, _⟩; exact hk h)]
    rfl
theorem dig_nd (l : List UInt8) (h : l.all digB = true) : l.all nd_ = true := by
  rw [List.all_eq_true] at h ⊢
  intro c hc
  have h2 := h c hc
  unfold digB at h2
  simp only [Bool.and_eq_true, decide_eq_true_eq] at h2
  unfold nd_ del
  rw [Bool.not_eq_true', Bool.or_eq_false_iff, Bool.or_eq_false_iff, beq_eq_false_iff_ne, beq_eq_false_iff_ne, beq_eq_false_iff_ne]
  refine ⟨⟨?_, ?_⟩, ?_⟩
  all_goals
    intro e
    rw [e] at h2
    revert h2
    decide
theorem hex_nd (l : List UInt8) (h : l.all hexB = true) : l.all nd_ = true := by
  rw [List.all_eq_true] at h ⊢
  intro c hc
  have h2 := h c hc
  unfold nd_ del
  rw [Bool.not_eq_true', Bool.or_eq_false_iff, Bool.or_eq_false_iff, beq_eq_false_iff_ne, beq_eq_false_iff_ne, beq_eq_false_iff_ne]
  refine ⟨⟨?_, ?_⟩, ?_⟩
  all_goals
    intro e
    rw [e] at h2
    revert h2
    decide
theorem numK_dec (k : Int) (n : Nat) (h : n < 18446744073709551616) : numK k (Lib.decDigits n) = if allowedV k n = true then some n else none := by
  unfold numK
  rw [numR_dec n h]
  by_cases ha : allowedV k n = true
  · rw [if_pos ⟨rfl, ha⟩, if_pos ha]
  · rw [if_neg (by rintro ⟨_, h⟩; exact ha h), if_neg ha]
theorem openL_at (F : List UInt8 → Option (Nd × List UInt8)) (k : Int) (n : Nat) (z : List UInt8) (h : z.head? ≠ some 41) : openL F k n z = F z := by
  unfold openL; rw [if_neg h]
theorem joinL_head (l : List ByteArray) (hl : l ≠ []) (hT : ∀ p ∈ l, isT p.data.toList) (y : List UInt8) : (joinL l ++ y).head? ≠ some 41 ∧ joinL l ≠ [] := by
  cases l with
  | nil => exact absurd rfl hl
  | cons a r =>
    obtain ⟨h1, h2⟩ := isT_ne (hT a List.mem_cons_self)
    cases r with
    | nil => rw [joinL, head_app h1]; exact ⟨h2, h1⟩
    | cons b r =>
      rw [joinL, List.append_assoc, head_app h1]
      exact ⟨h2, by simp⟩
/-- May a term be of this kind and number, and have these parts? -/
def okV (k : Int) (n : Nat) (l : List ByteArray) : Prop := (numberedV k = true → allowedV k n = true) ∧ fitsV k l.length = true ∧ ¬ wrong k l
instance (k : Int) (n : Nat) (l : List ByteArray) : Decidable (okV k n l) := by unfold okV; exact inferInstance
theorem rd_txt5 (k : Int) (n : Nat) (b : List UInt8) (l : List ByteArray) (g : Nat) (h5 : 5 ≤ k) (h11 : k ≤ 11) (hn : n < 18446744073709551616) (hT : ∀ p ∈ l, isT p.data.toList) (hg : 2 * (txtL k n b l).length + 2 ≤ g) :
    rdL g none (txtL k n b l) = if okV k n l then some ((k, (if numberedV k = true then n else 0), [], l), []) else none := by
  obtain ⟨g, rfl⟩ : ∃ g', g = g' + 1 := ⟨g - 1, by omega⟩
  have hk := kind_let k (by omega) h11
  have hz : fitsV k (([] : List ByteArray).length : Nat) = decide (k = 11) := fits_zero h5 h11
  unfold txtL at hg ⊢
  rw [if_neg (by omega), if_neg (by omega), if_neg (by omega)] at hg ⊢
  rw [rdL_none]
  simp only [List.length_cons, List.length_append] at hg
  have hmain : ∀ (m : Nat) (l' : List UInt8), l' = joinL l ++ [41] → (numberedV k = true → m = n ∧ l ≠ []) → (numberedV k = false → m = 0) → (numberedV k = true → allowedV k n = true) →
      openL (rdL g (some (k, m, []))) k m l' = if okV k n l then some ((k, (if numberedV k = true then n else 0), [], l), []) else none := by
    rintro m l' rfl hm1 hm2 ha
    have hm : m = if numberedV k = true then n else 0 := by
      cases h : numberedV k with
      | true => rw [if_pos rfl]; exact (hm1 h).1
      | false => rw [if_neg (by decide)]; exact hm2 h
    rw [← hm]
    by_cases hl : l = []
    · subst hl
      unfold openL
      rw [if_pos (by rfl)]
      show endL k m [] [41] = _
      unfold endL
      simp only
      by_cases hf : fitsV k (([] : List ByteArray).length : Nat) = true
      · rw [if_pos hf, if_pos ⟨ha, hf, by rintro ⟨_, h, _⟩; simp at h⟩]
      · rw [if_neg hf, if_neg (by rintro ⟨_, h, _⟩; exact hf h)]
    · obtain ⟨h1, h2⟩ := joinL_head l hl hT [41]
      rw [openL_at _ _ _ _ h1, parts_all k m l [] g hl hT (by omega)]
      by_cases hw : wrong k l
      · rw [if_pos hw, if_neg (by rintro ⟨_, _, h⟩; exact h hw)]
      · rw [if_neg hw]
        unfold endL
        simp only
        by_cases hf : fitsV k l.length = true
        · rw [if_pos hf, if_pos ⟨ha, hf, hw⟩]
        · rw [if_neg hf, if_neg (by rintro ⟨_, h, _⟩; exact hf h)]
  cases hnb : numberedV k with
  | true =>
    rw [hnb] at hmain hg
    have hw := dig_nd _ (dec_dig n)
    rw [if_pos rfl] at hg ⊢
    by_cases hl : l = []
    · subst hl
      have hk8 : k ≠ 11 := by intro e; subst e; cases hnb
      rw [if_pos rfl, List.append_nil, if_neg (show ¬ okV k n [] by rintro ⟨_, h, _⟩; rw [hz] at h; exact hk8 (of_decide_eq_true h))]
      obtain ⟨t1, t2⟩ := tw_dl (Lib.decDigits n) [41] hw (dl_cons (by decide))
      rw [tmL, hk, if_neg (by omega), if_neg (by omega), if_neg (by omega), if_neg (by omega), if_neg (show ¬ ((40 :: (Lib.decDigits n ++ (joinL [] ++ [41]))).head? ≠ some 40) from fun h => h rfl), if_pos hnb, List.tail_cons]
      rw [show joinL [] ++ [41] = [41] from rfl, t1, t2]
      cases numK k (Lib.decDigits n) with
      | none => rfl
      | some m => simp
    · rw [if_neg hl, List.append_assoc, List.singleton_append]
      by_cases ha : allowedV k n = true
      · have hK := numK_dec k n hn
        rw [if_pos ha] at hK
        rw [tmL_num _ _ _ _ n (by rw [hk]; exact h5) (by rw [hk]; exact hnb) hw (by rw [hk]; exact hK), hk]
        have h := hmain n _ rfl (fun _ => ⟨rfl, hl⟩) (fun h => by cases h) (fun _ => ha)
        exact h
      · have hK := numK_dec k n hn
        rw [if_neg ha] at hK
        rw [if_neg (show ¬ okV k n l by rintro ⟨h, _⟩; exact ha (h hnb))]
        obtain ⟨t1, t2⟩ := tw_dl (Lib.decDigits n) (44 :: (joinL l ++ [41])) hw (dl_cons (by decide))
        rw [tmL, hk, if_neg (by omega), if_neg (by omega), if_neg (by omega), if_neg (by omega), if_neg (show ¬ ((40 :: (Lib.decDigits n ++ 44 :: (joinL l ++ [41]))).head? ≠ some 40) from fun h => h rfl), if_pos hnb, List.tail_cons, t1, hK]
  | false =>
    rw [hnb] at hmain
    rw [if_neg (by decide), List.nil_append, tmL_bare _ _ _ (by rw [hk]; exact h5) (by rw [hk]; exact hnb), hk]
    exact hmain 0 _ rfl (fun h => by cases h) (fun _ => rfl) (fun h => by cases h)
theorem rd_txt4 (k : Int) (n : Nat) (b : List UInt8) (l : List ByteArray) (g : Nat) (h1 : 1 ≤ k) (h4 : k ≤ 4) (hn : n < 18446744073709551616) (hg : 1 ≤ g) :
    rdL g none (txtL k n b l) = if (numberedV k = true → allowedV k n = true) then some ((k, (if numberedV k = true then n else 0), (if k = 4 then b else []), []), []) else none := by
  obtain ⟨g, rfl⟩ : ∃ g', g = g' + 1 := ⟨g - 1, by omega⟩
  have hk := kind_let k h1 (by omega)
  rw [rdL_none]
  unfold txtL
  rw [tmL, hk]
  rcases (show k = 1 ∨ k = 2 ∨ k = 3 ∨ k = 4 by omega) with rfl | rfl | rfl | rfl
  · rfl
  · have hw := dig_nd _ (dec_dig n)
    obtain ⟨t1, t2⟩ := tw_dl (Lib.decDigits n) [] hw (.inl rfl)
    rw [List.append_nil] at t1 t2
    rw [if_neg (by decide), if_neg (by decide), if_pos (by decide), if_pos (by decide), t1, t2, numK_dec _ n hn]
    by_cases ha : allowedV 2 n = true
    · rw [if_pos ha, if_pos (fun _ => ha)]; rfl
    · rw [if_neg ha, if_neg (fun h => ha (h rfl))]
  · have hw := dig_nd _ (dec_dig n)
    obtain ⟨t1, t2⟩ := tw_dl (Lib.decDigits n) [] hw (.inl rfl)
    rw [List.append_nil] at t1 t2
    rw [if_neg (by decide), if_neg (by decide), if_pos (by decide), if_pos (by decide), t1, t2, numK_dec _ n hn]
    by_cases ha : allowedV 3 n = true
    · rw [if_pos ha, if_pos (fun _ => ha)]; rfl
    · rw [if_neg ha, if_neg (fun h => ha (h rfl))]
  · have hw := hex_nd _ (hexS_hex b)
    obtain ⟨t1, t2⟩ := tw_dl (hexS b) [] hw (.inl rfl)
    rw [List.append_nil] at t1 t2
    have ht : (if (4 : Int) = 2 ∨ (4 : Int) = 3 then Lib.decDigits n else if (4 : Int) = 4 then hexS b else if (4 : Int) ≤ 4 then [] else
      40 :: ((if numberedV 4 = true then Lib.decDigits n ++ (if l = [] then [] else [44]) else []) ++ (joinL l ++ [41]))) = hexS b := by
      rw [if_neg (by decide), if_pos rfl]
    rw [ht, if_neg (by decide), if_neg (by decide), if_neg (by decide), if_pos (by decide), t1, t2, hexR_hexS, if_pos rfl, if_pos (fun h => by cases h)]
    rfl
theorem numK_some {k : Int} {w : List UInt8} {n : Nat} (h : numK k w = some n) : w = Lib.decDigits n ∧ allowedV k n = true ∧ n < 18446744073709551616 := by
  unfold numK at h
  split at h
  · rename_i hc
    simp only [Option.some.injEq] at h
    subst h
    exact ⟨(numR_back w hc.1).symm, hc.2, numR_lt w⟩
  · cases h
/-- What the parts are, of which a text was read. -/
theorem parts_back : ∀ (f : Nat) (k : Int) (n : Nat) (acc : List ByteArray) (z y : List UInt8) (nd : Nd), rdL f (some (k, n, acc)) z = some (nd, y) →
    ∃ l, l ≠ [] ∧ z = joinL l ++ 41 :: y ∧ nd = (k, n, [], acc ++ l) ∧ fitsV k (acc ++ l).length = true ∧ ∀ p ∈ l, isT p.data.toList := by
  intro f
  induction f with
  | zero => intro _ _ _ _ _ _ h; cases h
  | succ f ih =>
    intro k n acc z y nd h
    rw [rdL_some] at h
    unfold ptL at h
    split at h
    · cases h
    · rename_i nd1 z1 hq
      obtain ⟨x, e, hx, hne⟩ := isT_of hq
      rw [e, take_front] at h
      have hxT : isT (bytesOf x).data.toList := by
        have : (bytesOf x).data.toList = x := rfl
        rw [this]; exact hx
      split at h
      · cases h
      · split at h
        · rename_i h44
          obtain ⟨l, hl, d1, d2, d3, d4⟩ := ih _ _ _ _ _ _ h
          refine ⟨bytesOf x :: l, by simp, ?_, ?_, ?_, ?_⟩
          · rw [e, head_tail h44, d1]
            cases l with
            | nil => exact absurd rfl hl
            | cons b r =>
              rw [joinL, List.append_assoc]
              rfl
          · rw [d2, List.append_assoc]; rfl
          · rw [List.append_assoc] at d3; exact d3
          · intro p hp
            rcases List.mem_cons.1 hp with rfl | hp
            · exact hxT
            · exact d4 p hp
        · obtain ⟨d1, d2, d3⟩ := endL_some h
          refine ⟨[bytesOf x], by simp, ?_, d3, d2, ?_⟩
          · rw [e, d1]; rfl
          · intro p hp
            rw [List.mem_singleton.1 hp]; exact hxT
/-- What was read is the text of what it was read as. -/
theorem rd_back (f : Nat) (z : List UInt8) (k : Int) (n : Nat) (b : List UInt8) (l : List ByteArray) (h : rdL f none z = some ((k, n, b, l), [])) :
    z = txtL k n b l ∧ 1 ≤ k ∧ k ≤ 11 ∧ okV k n l ∧ n < 18446744073709551616 ∧ (numberedV k = false → n = 0) ∧ (k ≠ 4 → b = []) ∧ (k ≤ 4 → l = []) ∧ (∀ p ∈ l, isT p.data.toList) := by
  have hwhole : isT z := by
    obtain ⟨x, e, hx, _⟩ := isT_of h
    rw [List.append_nil] at e
    rw [e]; exact hx
  cases f with
  | zero => cases h
  | succ f =>
    rw [rdL_none] at h
    cases z with
    | nil => cases h
    | cons c r =>
      rw [tmL] at h
      have hkr := kind_le (c.toNat : Int)
      split at h
      · cases h
      rename_i h0
      have hlet := let_kind c h0
      split at h
      · rename_i h1
        simp only [Option.some.injEq, Prod.mk.injEq] at h
        obtain ⟨⟨rfl, rfl, rfl, rfl⟩, rfl⟩ := h
        refine ⟨?_, by omega, by omega, ⟨by decide, by decide, by rintro ⟨h, _⟩; cases h⟩, by decide, fun _ => rfl, fun _ => rfl, fun _ => rfl, fun p hp => by cases hp⟩
        unfold txtL
        rw [h1] at hlet
        rw [hlet]
        rfl
      rename_i h1
      split at h
      · rename_i h23
        split at h
        · cases h
        · rename_i m hm
          simp only [Option.some.injEq, Prod.mk.injEq] at h
          obtain ⟨⟨hk, rfl, rfl, rfl⟩, hd⟩ := h
          obtain ⟨w1, w2, w3⟩ := numK_some hm
          have hs := tw_split r
          rw [hd, List.append_nil] at hs
          rw [hk] at hlet h23 w2
          have hk4 : k ≤ 4 := by omega
          refine ⟨?_, by omega, by omega, ⟨fun _ => w2, ?_, by rintro ⟨h, _⟩; omega⟩, w3, ?_, fun _ => rfl, fun _ => rfl, fun p hp => by cases hp⟩
          · unfold txtL
            rw [hlet, if_pos h23, ← w1, ← hs]
          · rcases h23 with rfl | rfl <;> decide
          · intro h; rcases h23 with rfl | rfl <;> cases h
      rename_i h23
      split at h
      · rename_i h4
        split at h
        · rename_i hx
          simp only [Option.some.injEq, Prod.mk.injEq] at h
          obtain ⟨⟨rfl, rfl, rfl, rfl⟩, hd⟩ := h
          have hs := tw_split r
          rw [hd, List.append_nil] at hs
          rw [h4] at hlet
          refine ⟨?_, by omega, by omega, ⟨by decide, by decide, by rintro ⟨h, _⟩; cases h⟩, by decide, fun _ => rfl, fun h => absurd rfl h, fun _ => rfl, fun p hp => by cases hp⟩
          unfold txtL
          rw [hlet, if_neg (by decide), if_pos rfl, hexR_back _ hx, ← hs]
        · cases h
      rename_i h4
      split at h
      · cases h
      rename_i h40
      have hr := head_tail (Decidable.byContradiction h40)
      have hopen : ∀ (m : Nat) (z1 : List UInt8), openL (rdL f (some (kindV c.toNat, m, []))) (kindV c.toNat) m z1 = some ((k, n, b, l), []) →
          z1 = joinL l ++ [41] ∧ k = kindV c.toNat ∧ n = m ∧ b = [] ∧ fitsV k l.length = true ∧ ∀ p ∈ l, isT p.data.toList := by
        intro m z1 h1
        unfold openL at h1
        split at h1
        · obtain ⟨e1, e2, e3⟩ := endL_some h1
          simp only [Prod.mk.injEq] at e3
          obtain ⟨rfl, rfl, rfl, rfl⟩ := e3
          exact ⟨e1, rfl, rfl, rfl, e2, fun p hp => by cases hp⟩
        · obtain ⟨l', hl', e1, e2, e3, e4⟩ := parts_back _ _ _ _ _ _ _ h1
          simp only [Prod.mk.injEq, List.nil_append] at e2
          obtain ⟨rfl, rfl, rfl, rfl⟩ := e2
          exact ⟨e1, rfl, rfl, rfl, e3, e4⟩
      -- the text, and from it the order of a Dh's parts
      have hfin : ∀ (hz : c :: r = txtL k n b l) (hk : k = kindV c.toNat) (hn : n < 18446744073709551616) (hT : ∀ p ∈ l, isT p.data.toList), okV k n l := by
        intro hz hk hn hT
        obtain ⟨nd, hw⟩ := isT_on hwhole
        have h1 := hw [] (2 * (c :: r).length + 2) (.inl rfl) (by omega)
        rw [List.append_nil, hz, rd_txt5 k n b l _ (by omega) (by omega) hn hT (by omega)] at h1
        split at h1
        · assumption
        · cases h1
      split at h
      · rename_i hnb
        split at h
        · cases h
        · rename_i m hm
          split at h
          · cases h
          · rename_i h44
            have h44' := head_tail (Decidable.byContradiction h44)
            obtain ⟨e1, e2, e3, e4, e5, e6⟩ := hopen _ _ h
            subst e3 e4
            obtain ⟨w1, w2, w3⟩ := numK_some hm
            rw [← e2] at hlet hnb w2 hkr h0 h1 h23 h4
            have hl : l ≠ [] := by
              rintro rfl
              rw [show (([] : List ByteArray).length : Int) = 0 from rfl, fits_zero (by omega) (by omega)] at e5
              have := of_decide_eq_true e5
              subst this
              cases hnb
            have hz : c :: r = txtL k n [] l := by
              unfold txtL
              rw [hlet, if_neg h23, if_neg h4, if_neg (by omega), if_pos hnb, if_neg hl, ← w1, List.append_assoc, List.singleton_append, ← e1, ← h44', ← tw_split, ← hr]
            exact ⟨hz, by omega, by omega, hfin hz e2 w3 e6, w3, (fun h => by rw [hnb] at h; cases h), fun _ => rfl, (fun h => by omega), e6⟩
      · rename_i hnb
        obtain ⟨e1, e2, e3, e4, e5, e6⟩ := hopen _ _ h
        subst e3 e4
        rw [← e2] at hlet hnb hkr h0 h1 h23 h4
        have hz : c :: r = txtL k 0 [] l := by
          unfold txtL
          rw [hlet, if_neg h23, if_neg h4, if_neg (by omega), if_neg hnb, List.nil_append, ← e1, ← hr]
        exact ⟨hz, by omega, by omega, hfin hz e2 (by decide) e6, by decide, fun _ => rfl, fun _ => rfl, fun h => by omega, e6⟩
end
section
open Go.RowKit Go.Deep

theorem less_asym : ∀ a b : List UInt8, Op.bytesLess a b = true → Op.bytesLess b a = false
  | _, [], h => by simp [Op.bytesLess] at h
  | [], _ :: _, _ => rfl
  | a :: x, b :: y, h => by
    simp only [Op.bytesLess, Bool.or_eq_true, decide_eq_true_eq, Bool.and_eq_true, beq_iff_eq] at h
    simp only [Op.bytesLess, Bool.or_eq_false_iff, decide_eq_false_iff_not, Bool.and_eq_false_imp, beq_iff_eq]
    rcases h with h | ⟨rfl, h⟩
    · refine ⟨?_, ?_⟩
      · intro h2
        have h3 : a.toNat < b.toNat := h
        have h4 : b.toNat < a.toNat := h2
        omega
      · rintro rfl
        have h3 : b.toNat < b.toNat := h
        omega
    · refine ⟨?_, fun _ => less_asym x y h⟩
      intro h2
      have h3 : a.toNat < a.toNat := h2
      omega
theorem less_total : ∀ a b : List UInt8, Op.bytesLess a b = false → Op.bytesLess b a = false → a = b
  | [], [], _, _ => rfl
  | [], _ :: _, h, _ => by simp [Op.bytesLess] at h
  | _ :: _, [], _, h => by simp [Op.bytesLess] at h
  | a :: x, b :: y, h, h2 => by
    simp only [Op.bytesLess, Bool.or_eq_false_iff, decide_eq_false_iff_not, Bool.and_eq_false_imp, beq_iff_eq] at h h2
    have e : a = b := by
      apply UInt8.toNat_inj.1
      have h3 : ¬ a.toNat < b.toNat := h.1
      have h4 : ¬ b.toNat < a.toNat := h2.1
      omega
    subst e
    rw [less_total x y (h.2 rfl) (h2.2 rfl)]
theorem data_inj {a b : ByteArray} (h : a.data.toList = b.data.toList) : a = b := ByteArray.ext (Array.toList_inj.1 h)
theorem gt_iff (a b : ByteArray) : gtB a b = true ↔ Op.bytesLess b.data.toList a.data.toList = true := by
  unfold gtB
  rw [ByteArray.toList_eq, ByteArray.toList_eq, Bool.not_eq_true', Bool.or_eq_false_iff]
  constructor
  · rintro ⟨h1, h2⟩
    cases h : Op.bytesLess b.data.toList a.data.toList with
    | true => rfl
    | false =>
      rw [less_total _ _ h1 h] at h2
      simp at h2
  · intro h
    have h1 := less_asym _ _ h
    refine ⟨h1, ?_⟩
    rw [beq_eq_false_iff_ne]
    intro e
    rw [e] at h h1
    rw [h] at h1
    cases h1
theorem gt_asym {a b : ByteArray} (h : gtB a b = true) : gtB b a = false := by
  rw [Bool.eq_false_iff]
  intro h2
  have h3 := less_asym _ _ ((gt_iff a b).1 h)
  rw [(gt_iff b a).1 h2] at h3
  cases h3
/-- The parts of a Dh in their order. -/
def sortV (k : Int) (l : List ByteArray) : List ByteArray := if wrong k l then [l.getD 1 ByteArray.empty, l.getD 0 ByteArray.empty] else l
theorem sort_right (k : Int) (l : List ByteArray) : ¬ wrong k (sortV k l) := by
  unfold sortV
  by_cases h : wrong k l
  · rw [if_pos h]
    obtain ⟨h1, h2, h3⟩ := h
    rintro ⟨_, _, h4⟩
    rw [show ([l.getD 1 ByteArray.empty, l.getD 0 ByteArray.empty].getD 0 ByteArray.empty) = l.getD 1 ByteArray.empty from rfl, show ([l.getD 1 ByteArray.empty, l.getD 0 ByteArray.empty].getD 1 ByteArray.empty) = l.getD 0 ByteArray.empty from rfl, gt_asym h3] at h4
    cases h4
  · rw [if_neg h]; exact h
theorem sort_len (k : Int) (l : List ByteArray) : (sortV k l).length = l.length := by
  unfold sortV
  split
  · rename_i h
    rw [h.2.1]; rfl
  · rfl
theorem sort_mem (k : Int) (l : List ByteArray) (p : ByteArray) : p ∈ sortV k l ↔ p ∈ l := by
  unfold sortV
  split
  · rename_i h
    obtain ⟨_, h2, _⟩ := h
    cases l with
    | nil => simp at h2
    | cons a r =>
      cases r with
      | nil => simp at h2
      | cons b r =>
        cases r with
        | cons c r => simp at h2
        | nil => simp [or_comm]
  · exact Iff.rfl
theorem sort_not6 {k : Int} (h : k ≠ 6) (l : List ByteArray) : sortV k l = l := by unfold sortV; rw [if_neg (by rintro ⟨a, _⟩; exact h a)]
theorem txt_len5 (k : Int) (n : Nat) (b : List UInt8) (l : List ByteArray) (h : 5 ≤ k) : (joinL l).length + 3 ≤ (txtL k n b l).length := by
  unfold txtL
  rw [if_neg (by omega), if_neg (by omega), if_neg (by omega)]
  simp only [List.length_cons, List.length_append, List.length_nil]
  omega
theorem join_mem (l : List ByteArray) (p : ByteArray) (h : p ∈ l) : p.size ≤ (joinL l).length := by
  induction l with
  | nil => cases h
  | cons a r ih =>
    have hsz : ∀ a : ByteArray, a.data.toList.length = a.size := fun _ => rfl
    cases r with
    | nil => rw [List.mem_singleton.1 h, joinL, hsz]; exact Nat.le_refl _
    | cons b r =>
      rw [joinL, List.length_append, List.length_cons, hsz]
      rcases List.mem_cons.1 h with h | h
      · rw [h]; omega
      · have := ih h; omega
theorem isT_parse (s : ByteArray) (h : s.size ≤ 65536) : isT s.data.toList ↔ ∃ nd, parseV s = some nd := by
  rw [parse_list, if_neg (by omega)]
  have hsz : s.data.toList.length = s.size := rfl
  constructor
  · intro hT
    obtain ⟨nd, hon⟩ := isT_on hT
    have := hon [] (2 * s.size + 2) (.inl rfl) (by omega)
    rw [List.append_nil] at this
    rw [this]
    exact ⟨nd, rfl⟩
  · rintro ⟨nd, h⟩
    unfold whole at h
    split at h
    · rename_i hq
      obtain ⟨x, e, hx, _⟩ := isT_of hq
      rw [List.append_nil] at e
      rw [e]; exact hx
    · cases h
/-- The text of a term, if there is one. -/
noncomputable def makeV (k : Int) (n : Nat) (b : List UInt8) (l : List ByteArray) : ByteArray :=
  if 1 ≤ k ∧ k ≤ 11 ∧ (numberedV k = true → allowedV k n = true) ∧ fitsV k l.length = true ∧ (∀ p ∈ l, (parseV p).isSome = true) ∧ (txtL k n b (sortV k l)).length ≤ 65536 then bytesOf (txtL k n b (sortV k l)) else ByteArray.empty
theorem parse_size {s : ByteArray} {nd : Nd} (h : parseV s = some nd) : s.size ≤ 65536 := by
  unfold parseV at h
  split at h
  · cases h
  · omega
theorem some_isT {p : ByteArray} (h : (parseV p).isSome = true) : isT p.data.toList := by
  obtain ⟨nd, h⟩ := Option.isSome_iff_exists.1 h
  exact (isT_parse p (parse_size h)).2 ⟨nd, h⟩
theorem bytesOf_size (l : List UInt8) : (bytesOf l).size = l.length := by
  show l.toArray.size = l.length
  simp
theorem fits4 {k : Int} (h1 : 1 ≤ k) (h4 : k ≤ 4) (l : List ByteArray) : fitsV k l.length = true ↔ l = [] := by
  rcases (show k = 1 ∨ k = 2 ∨ k = 3 ∨ k = 4 by omega) with rfl | rfl | rfl | rfl
  all_goals
    simp only [fitsV, leastV, mostV]
    cases l with
    | nil => simp
    | cons a r => simp <;> try omega
/-- The text of a kind, whose parts are terms, as a term. -/
theorem parse_txt (k : Int) (n : Nat) (b : List UInt8) (l : List ByteArray) (h1 : 1 ≤ k) (h11 : k ≤ 11) (hn : n < 18446744073709551616) (hT : ∀ p ∈ l, (parseV p).isSome = true) (h4 : k ≤ 4 → l = []) :
    parseV (bytesOf (txtL k n b l)) = if okV k n l ∧ (txtL k n b l).length ≤ 65536 then some (k, (if numberedV k = true then n else 0), (if k = 4 then b else []), l) else none := by
  rw [parse_list, bytesOf_size]
  by_cases hlen : (txtL k n b l).length ≤ 65536
  · rw [if_neg (by omega)]
    show whole (rdL _ none (txtL k n b l)) = _
    by_cases hk : k ≤ 4
    · have hl := h4 hk
      subst hl
      rw [rd_txt4 k n b [] _ h1 hk hn (by omega)]
      have hok : okV k n [] ↔ (numberedV k = true → allowedV k n = true) := by
        unfold okV
        constructor
        · exact fun h => h.1
        · exact fun h => ⟨h, (fits4 h1 hk []).2 rfl, by rintro ⟨_, h, _⟩; simp at h⟩
      by_cases ha : (numberedV k = true → allowedV k n = true)
      · rw [if_pos ha, if_pos (show okV k n [] ∧ (txtL k n b []).length ≤ 65536 from ⟨hok.2 ha, hlen⟩)]; rfl
      · rw [if_neg ha, if_neg (show ¬ (okV k n [] ∧ (txtL k n b []).length ≤ 65536) by rintro ⟨h, _⟩; exact ha (hok.1 h))]; rfl
    · rw [rd_txt5 k n b l _ (by omega) h11 hn (fun p hp => some_isT (hT p hp)) (Nat.le_refl _)]
      by_cases ha : okV k n l
      · rw [if_pos ha, if_pos (show okV k n l ∧ (txtL k n b l).length ≤ 65536 from ⟨ha, hlen⟩), if_neg (show ¬ k = 4 by omega)]; rfl
      · rw [if_neg ha, if_neg (show ¬ (okV k n l ∧ (txtL k n b l).length ≤ 65536) by rintro ⟨h, _⟩; exact ha h)]; rfl
  · rw [if_pos (by omega), if_neg (by rintro ⟨_, h⟩; exact hlen h)]
/-- What is made is read. -/
theorem make_read {k : Int} {n : Nat} {b : List UInt8} {l : List ByteArray} (hn : n < 18446744073709551616) (h : makeV k n b l ≠ ByteArray.empty) :
    parseV (makeV k n b l) = some (k, (if numberedV k = true then n else 0), (if k = 4 then b else []), sortV k l) := by
  unfold makeV at h ⊢
  split at h
  · rename_i hc
    obtain ⟨h1, h2, h3, h4, h5, h6⟩ := hc
    rw [if_pos ⟨h1, h2, h3, h4, h5, h6⟩]
    rw [parse_txt k n b (sortV k l) h1 h2 hn (fun p hp => h5 p ((sort_mem k l p).1 hp)) (fun hk => by rw [sort_not6 (by omega)]; exact (fits4 h1 hk l).1 h4)]
    rw [if_pos ⟨⟨h3, by rw [sort_len]; exact h4, sort_right k l⟩, h6⟩]
  · exact absurd rfl h
theorem bytes_ne {l : List UInt8} (h : l ≠ []) : bytesOf l ≠ ByteArray.empty := by
  intro e
  have := bytesOf_size l
  rw [e] at this
  cases l with
  | nil => exact h rfl
  | cons a r => simp at this
theorem txt_ne (k : Int) (n : Nat) (b : List UInt8) (l : List ByteArray) : txtL k n b l ≠ [] := by unfold txtL; simp
/-- What is read is made anew of what it was read as. -/
theorem read_make {s : ByteArray} {k : Int} {n : Nat} {b : List UInt8} {l : List ByteArray} (h : parseV s = some (k, n, b, l)) :
    makeV k n b l = s ∧ 1 ≤ k ∧ k ≤ 11 ∧ fitsV k l.length = true ∧ n < 18446744073709551616 ∧ (numberedV k = false → n = 0) ∧ (k ≠ 4 → b = []) ∧ (∀ p ∈ l, (parseV p).isSome = true) ∧ (∀ p ∈ l, p.size ≤ s.size) ∧ ¬ wrong k l := by
  have hs := parse_size h
  rw [parse_list, if_neg (by omega)] at h
  have hq : rdL (2 * s.size + 2) none s.data.toList = some ((k, n, b, l), []) := by
    unfold whole at h
    split at h
    · rename_i hq
      simp only [Option.some.injEq] at h
      rw [hq, h]
    · cases h
  obtain ⟨h1, h2, h3, h4, h5, h6, h7, h8, h9⟩ := rd_back _ _ _ _ _ _ hq
  have hsz : s.data.toList.length = s.size := rfl
  have hsm : ∀ p ∈ l, p.size ≤ s.size := by
    intro p hp
    by_cases hk : k ≤ 4
    · rw [h8 hk] at hp; cases hp
    · have a := join_mem l p hp
      have b := txt_len5 k n b l (by omega)
      rw [← h1] at b
      omega
  have hps : ∀ p ∈ l, (parseV p).isSome = true := by
    intro p hp
    obtain ⟨nd, e⟩ := (isT_parse p (by have := hsm p hp; omega)).1 (h9 p hp)
    rw [e]; rfl
  have hsort : sortV k l = l := by unfold sortV; rw [if_neg h4.2.2]
  refine ⟨?_, h2, h3, h4.2.1, h5, h6, h7, hps, hsm, h4.2.2⟩
  unfold makeV
  rw [hsort, if_pos ⟨h2, h3, h4.1, h4.2.1, hps, by rw [← h1]; omega⟩, ← h1]
  exact bytesOf_data s
end
end Go.Proofs.YtfipdjlalfpbnaaDoor

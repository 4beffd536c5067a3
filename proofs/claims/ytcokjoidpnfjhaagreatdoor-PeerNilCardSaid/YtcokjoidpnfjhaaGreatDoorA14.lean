/-
  Walks and plain words (texts Gl, Nl). No condition beyond those that each theorem states.
-/
import Derived.Test.YtcokjoidpnfjhaaGreatDoorA13
namespace Go.Proofs.YtcokjoidpnfjhaaGreatDoor
section
open Go.RowKit Go.Deep

def nd_ (c : UInt8) : Bool := !del c
def endL (k : Int) (n : Nat) (parts : List ByteArray) (z : List UInt8) : Option (Nd × List UInt8) :=
  match z with
  | 41 :: y => if fitsV k parts.length = true then some ((k, n, [], parts), y) else none
  | _ => none
def bytesOf (l : List UInt8) : ByteArray := ⟨l.toArray⟩
/-- Behind the bracket (and the number). -/
def openL (F : List UInt8 → Option (Nd × List UInt8)) (k : Int) (n : Nat) (z : List UInt8) : Option (Nd × List UInt8) :=
  if z.head? = some 41 then endL k n [] z else F z
/-- One term, by a reader of what stands behind the bracket. -/
def tmL (F : Option (Int × Nat × List ByteArray) → List UInt8 → Option (Nd × List UInt8)) : List UInt8 → Option (Nd × List UInt8)
  | [] => none
  | c :: r =>
    if kindV c.toNat = 0 then none
    else if kindV c.toNat = 1 then some ((1, 0, [], []), r)
    else if kindV c.toNat = 2 ∨ kindV c.toNat = 3 then
      match numK (kindV c.toNat) (r.takeWhile nd_) with
      | none => none
      | some n => some ((kindV c.toNat, n, [], []), r.dropWhile nd_)
    else if kindV c.toNat = 4 then
      if (hexR (r.takeWhile nd_)).2 = 0 then some ((4, 0, (hexR (r.takeWhile nd_)).1, []), r.dropWhile nd_) else none
    else if r.head? ≠ some 40 then none
    else if numberedV (kindV c.toNat) = true then
      match numK (kindV c.toNat) (r.tail.takeWhile nd_) with
      | none => none
      | some n =>
        if (r.tail.dropWhile nd_).head? ≠ some 44 then none
        else openL (F (some (kindV c.toNat, n, []))) (kindV c.toNat) n (r.tail.dropWhile nd_).tail
    else openL (F (some (kindV c.toNat, 0, []))) (kindV c.toNat) 0 r.tail
/-- The parts, by a reader. -/
def ptL (F : Option (Int × Nat × List ByteArray) → List UInt8 → Option (Nd × List UInt8)) (k : Int) (n : Nat) (parts : List ByteArray) (z : List UInt8) : Option (Nd × List UInt8) :=
  match F none z with
  | none => none
  | some (_, y) =>
    if k = 6 ∧ parts.length = 1 ∧ gtB (parts.getLastD ByteArray.empty) (bytesOf (z.take (z.length - y.length))) = true then none
    else if y.head? = some 44 then F (some (k, n, parts ++ [bytesOf (z.take (z.length - y.length))])) y.tail
    else endL k n (parts ++ [bytesOf (z.take (z.length - y.length))]) y
/-- The reader over what is left of the text. -/
def rdL : Nat → Option (Int × Nat × List ByteArray) → List UInt8 → Option (Nd × List UInt8)
  | 0, _, _ => none
  | f + 1, none, z => tmL (fun m z => rdL f m z) z
  | f + 1, some (k, n, parts), z => ptL (fun m z => rdL f m z) k n parts z
theorem rdL_none (f : Nat) (z : List UInt8) : rdL (f + 1) none z = tmL (rdL f) z := rfl
theorem rdL_some (f : Nat) (k : Int) (n : Nat) (parts : List ByteArray) (z : List UInt8) : rdL (f + 1) (some (k, n, parts)) z = ptL (rdL f) k n parts z := rfl
theorem head_app {a b : List UInt8} (h : a ≠ []) : (a ++ b).head? = a.head? := by
  cases a with
  | nil => exact absurd rfl h
  | cons c r => rfl

def dl (y : List UInt8) : Prop := y = [] ∨ ∃ c r, y = c :: r ∧ del c = true
theorem dl_cons {c : UInt8} {r : List UInt8} (h : del c = true) : dl (c :: r) := .inr ⟨c, r, rfl, h⟩
theorem tw_dl (w y : List UInt8) (hw : w.all nd_ = true) (hy : dl y) : (w ++ y).takeWhile nd_ = w ∧ (w ++ y).dropWhile nd_ = y := by
  induction w with
  | nil =>
    rcases hy with rfl | ⟨c, r, rfl, hc⟩
    · exact ⟨rfl, rfl⟩
    · have : nd_ c = false := by unfold nd_; rw [hc]; rfl
      simp [this]
  | cons c w ih =>
    simp only [List.all_cons, Bool.and_eq_true] at hw
    obtain ⟨h1, h2⟩ := ih hw.2
    simp [hw.1, h1, h2]
theorem tw_all (l : List UInt8) : (l.takeWhile nd_).all nd_ = true := by
  induction l with
  | nil => rfl
  | cons c r ih =>
    by_cases h : nd_ c = true
    · rw [List.takeWhile_cons_of_pos h]; simp [h, ih]
    · rw [List.takeWhile_cons_of_neg h]; rfl
theorem tw_split (l : List UInt8) : l = l.takeWhile nd_ ++ l.dropWhile nd_ := (List.takeWhile_append_dropWhile).symm
theorem endL_some {k : Int} {n : Nat} {parts : List ByteArray} {z y : List UInt8} {r : Nd} (h : endL k n parts z = some (r, y)) : z = 41 :: y ∧ fitsV k parts.length = true ∧ r = (k, n, [], parts) := by
  unfold endL at h
  split at h
  · split at h
    · rename_i hf
      simp only [Option.some.injEq, Prod.mk.injEq] at h
      exact ⟨by rw [h.2], hf, h.1.symm⟩
    · cases h
  · cases h
theorem endL_mk {k : Int} {n : Nat} {parts : List ByteArray} (y : List UInt8) (h : fitsV k parts.length = true) : endL k n parts (41 :: y) = some ((k, n, [], parts), y) := by
  unfold endL
  simp only
  rw [if_pos h]
theorem head_tail {l : List UInt8} {c : UInt8} (h : l.head? = some c) : l = c :: l.tail := by
  cases l with
  | nil => cases h
  | cons a r => simp at h; rw [h]; rfl
theorem tmL_num (F : Option (Int × Nat × List ByteArray) → List UInt8 → Option (Nd × List UInt8)) (c : UInt8) (w z1 : List UInt8) (n : Nat) (h5 : 5 ≤ kindV c.toNat) (hnb : numberedV (kindV c.toNat) = true)
    (hw : w.all nd_ = true) (hn : numK (kindV c.toNat) w = some n) : tmL F (c :: 40 :: (w ++ 44 :: z1)) = openL (F (some (kindV c.toNat, n, []))) (kindV c.toNat) n z1 := by
  obtain ⟨t1, t2⟩ := tw_dl w (44 :: z1) hw (dl_cons (by decide))
  rw [tmL, if_neg (by omega), if_neg (by omega), if_neg (by omega), if_neg (by omega), if_neg (fun h => h rfl), if_pos hnb, List.tail_cons, t1, t2, hn]
  exact if_neg (fun h => h rfl)
theorem tmL_bare (F : Option (Int × Nat × List ByteArray) → List UInt8 → Option (Nd × List UInt8)) (c : UInt8) (z1 : List UInt8) (h5 : 5 ≤ kindV c.toNat) (hnb : numberedV (kindV c.toNat) = false) :
    tmL F (c :: 40 :: z1) = openL (F (some (kindV c.toNat, 0, []))) (kindV c.toNat) 0 z1 := by
  rw [tmL, if_neg (by omega), if_neg (by omega), if_neg (by omega), if_neg (by omega), if_neg (fun h => h rfl), if_neg (by rw [hnb]; decide)]
  rfl
/-- What was read does not depend on what stands behind it, nor on the fuel. -/
theorem rdL_local : ∀ (f : Nat) (m : Option (Int × Nat × List ByteArray)) (z : List UInt8) (nd : Nd) (y : List UInt8), rdL f m z = some (nd, y) →
    ∃ x, z = x ++ y ∧ x ≠ [] ∧ x.head? ≠ some 41 ∧ ∀ y' g, dl y' → 2 * x.length ≤ g → rdL g m (x ++ y') = some (nd, y') := by
  intro f
  induction f with
  | zero => intro m z nd y h; cases h
  | succ f ih =>
    intro m z nd y h
    cases m with
    | none =>
      rw [rdL_none] at h
      cases z with
      | nil => cases h
      | cons c r =>
        rw [tmL] at h
        split at h
        · cases h
        rename_i h0
        have hc41 : c ≠ 41 := by intro e; subst e; exact h0 (by decide)
        split at h
        · rename_i h1
          simp only [Option.some.injEq, Prod.mk.injEq] at h
          obtain ⟨rfl, rfl⟩ := h
          refine ⟨[c], rfl, by simp, by simpa using hc41, fun y' g _ hg => ?_⟩
          obtain ⟨g, rfl⟩ : ∃ g', g = g' + 1 := ⟨g - 1, by simp at hg; omega⟩
          rw [rdL_none, List.singleton_append, tmL]
          rw [if_neg h0, if_pos h1]
        rename_i h1
        split at h
        · rename_i h23
          split at h
          · cases h
          · rename_i n hn
            simp only [Option.some.injEq, Prod.mk.injEq] at h
            obtain ⟨rfl, rfl⟩ := h
            refine ⟨c :: r.takeWhile nd_, by rw [List.cons_append, ← tw_split], by simp, by simpa using hc41, fun y' g hy hg => ?_⟩
            obtain ⟨g, rfl⟩ : ∃ g', g = g' + 1 := ⟨g - 1, by simp at hg; omega⟩
            obtain ⟨e1, e2⟩ := tw_dl _ y' (tw_all r) hy
            rw [rdL_none, List.cons_append, tmL]
            rw [if_neg h0, if_neg h1, if_pos h23, e1, hn, e2]
        rename_i h23
        split at h
        · rename_i h4
          split at h
          · rename_i hx
            simp only [Option.some.injEq, Prod.mk.injEq] at h
            obtain ⟨rfl, rfl⟩ := h
            refine ⟨c :: r.takeWhile nd_, by rw [List.cons_append, ← tw_split], by simp, by simpa using hc41, fun y' g hy hg => ?_⟩
            obtain ⟨g, rfl⟩ : ∃ g', g = g' + 1 := ⟨g - 1, by simp at hg; omega⟩
            obtain ⟨e1, e2⟩ := tw_dl _ y' (tw_all r) hy
            rw [rdL_none, List.cons_append, tmL]
            rw [if_neg h0, if_neg h1, if_neg h23, if_pos h4, e1, if_pos hx, e2]
          · cases h
        rename_i h4
        split at h
        · cases h
        rename_i h40
        have h40' : r.head? = some 40 := Decidable.byContradiction h40
        have hr := head_tail h40'
        have hopen : ∀ (n : Nat) (z1 : List UInt8), openL (rdL f (some (kindV c.toNat, n, []))) (kindV c.toNat) n z1 = some (nd, y) →
            ∃ x1, z1 = x1 ++ y ∧ x1 ≠ [] ∧ ∀ y' g, dl y' → 2 * x1.length ≤ g → openL (rdL g (some (kindV c.toNat, n, []))) (kindV c.toNat) n (x1 ++ y') = some (nd, y') := by
          intro n z1 h1
          unfold openL at h1
          split at h1
          · obtain ⟨e1, e2, e3⟩ := endL_some h1
            refine ⟨[41], e1, by simp, fun y' g _ _ => ?_⟩
            unfold openL
            rw [if_pos (by simp), e3]
            exact endL_mk y' e2
          · obtain ⟨x1, e1, e2, e3, e4⟩ := ih _ _ _ _ h1
            refine ⟨x1, e1, e2, fun y' g hy hg => ?_⟩
            unfold openL
            rw [if_neg (by rw [head_app e2]; exact e3)]
            exact e4 y' g hy hg
        split at h
        · rename_i hnb
          split at h
          · cases h
          · rename_i n hn
            split at h
            · cases h
            · rename_i h44
              have h44' : (r.tail.dropWhile nd_).head? = some 44 := Decidable.byContradiction h44
              obtain ⟨x1, e1, e2, e3⟩ := hopen _ _ h
              have hz : c :: r = (c :: 40 :: (r.tail.takeWhile nd_ ++ 44 :: x1)) ++ y := by
                rw [List.cons_append, List.cons_append, List.append_assoc, List.cons_append, ← e1, ← head_tail h44', ← tw_split, ← hr]
              refine ⟨_, hz, by simp, by simpa using hc41, fun y' g hy hg => ?_⟩
              obtain ⟨g, rfl⟩ : ∃ g', g = g' + 1 := ⟨g - 1, by simp at hg; omega⟩
              rw [rdL_none, List.cons_append, List.cons_append, List.append_assoc, List.cons_append, tmL_num _ c _ _ n (by have := kind_le (c.toNat : Int); omega) hnb (tw_all _) hn]
              exact e3 y' g hy (by simp at hg; omega)
        · rename_i hnb
          obtain ⟨x1, e1, e2, e3⟩ := hopen _ _ h
          have hz : c :: r = (c :: 40 :: x1) ++ y := by
            rw [List.cons_append, List.cons_append, ← e1, ← hr]
          refine ⟨_, hz, by simp, by simpa using hc41, fun y' g hy hg => ?_⟩
          obtain ⟨g, rfl⟩ : ∃ g', g = g' + 1 := ⟨g - 1, by simp at hg; omega⟩
          rw [rdL_none, List.cons_append, List.cons_append, tmL_bare _ c _ (by have := kind_le (c.toNat : Int); omega) (by simpa using hnb)]
          exact e3 y' g hy (by simp at hg; omega)
    | some kp =>
      obtain ⟨k, n, parts⟩ := kp
      rw [rdL_some] at h
      unfold ptL at h
      split at h
      · cases h
      · rename_i nd1 z1 hq
        obtain ⟨x1, e1, e2, e3, e4⟩ := ih _ _ _ _ hq
        have hpart : z.take (z.length - z1.length) = x1 := by
          rw [e1, List.length_append, Nat.add_sub_cancel, List.take_left']
          rfl
        rw [hpart] at h
        split at h
        · cases h
        rename_i hgt
        split at h
        · rename_i h44
          obtain ⟨x2, d1, d2, d3, d4⟩ := ih _ _ _ _ h
          have hz1 := head_tail h44
          refine ⟨x1 ++ 44 :: x2, by rw [e1, List.append_assoc, List.cons_append, ← d1, ← hz1], by simp, by rw [head_app e2]; exact e3, fun y' g hy hg => ?_⟩
          obtain ⟨g, rfl⟩ : ∃ g', g = g' + 1 := ⟨g - 1, by simp at hg; omega⟩
          have hx1 : 1 ≤ x1.length := by cases x1 with | nil => exact absurd rfl e2 | cons a b => simp
          rw [rdL_some]
          unfold ptL
          rw [List.append_assoc, List.cons_append, e4 (44 :: (x2 ++ y')) g (dl_cons (by decide)) (by simp at hg; omega)]
          have hp2 : (x1 ++ 44 :: (x2 ++ y')).take ((x1 ++ 44 :: (x2 ++ y')).length - (44 :: (x2 ++ y')).length) = x1 := by
            rw [List.length_append, Nat.add_sub_cancel, List.take_left']
            rfl
          simp only
          rw [hp2, if_neg hgt, if_pos (by rfl)]
          exact d4 y' g hy (by simp at hg; omega)
        · rename_i h44
          obtain ⟨d1, d2, d3⟩ := endL_some h
          refine ⟨x1 ++ [41], by rw [e1, d1]; simp, by simp, by rw [head_app e2]; exact e3, fun y' g hy hg => ?_⟩
          obtain ⟨g, rfl⟩ : ∃ g', g = g' + 1 := ⟨g - 1, by simp at hg; omega⟩
          have hx1 : 1 ≤ x1.length := by cases x1 with | nil => exact absurd rfl e2 | cons a b => simp
          rw [rdL_some]
          unfold ptL
          rw [List.append_assoc, List.singleton_append, e4 (41 :: y') g (dl_cons (by decide)) (by simp at hg; omega)]
          have hp2 : (x1 ++ 41 :: y').take ((x1 ++ 41 :: y').length - (41 :: y').length) = x1 := by
            rw [List.length_append, Nat.add_sub_cancel, List.take_left']
            rfl
          simp only
          rw [hp2, if_neg hgt, if_neg (by simp), d3]
          exact endL_mk y' d2
theorem peek_head (s : ByteArray) (p : Nat) (c : UInt8) : peekV s p (c.toNat : Int) = decide ((s.data.toList.drop p).head? = some c) := by
  unfold peekV
  split
  · rename_i h
    rw [drop_at s p h, Bool.eq_iff_iff]
    simp only [List.head?_cons, Option.some.injEq, beq_iff_eq, decide_eq_true_eq]
    constructor
    · intro e; exact UInt8.toNat_inj.1 (by omega)
    · intro e; rw [e]
  · rename_i h
    rw [List.drop_of_length_le (by simpa using h)]
    simp
theorem rdL_suf {f : Nat} {m : Option (Int × Nat × List ByteArray)} {z : List UInt8} {nd : Nd} {y : List UInt8} (h : rdL f m z = some (nd, y)) : ∃ x, z = x ++ y ∧ x ≠ [] := by
  obtain ⟨x, e, e2, _⟩ := rdL_local f m z nd y h
  exact ⟨x, e, e2⟩
theorem drop_suf {s : ByteArray} {p : Nat} {x y : List UInt8} (hp : p ≤ s.size) (h : s.data.toList.drop p = x ++ y) : s.data.toList.drop (s.size - y.length) = y ∧ s.size - y.length = p + x.length ∧ p + x.length + y.length = s.size := by
  have hl := congrArg List.length h
  rw [List.length_drop, List.length_append] at hl
  have hsz : s.data.toList.length = s.size := rfl
  have e : s.size - y.length = p + x.length := by omega
  refine ⟨?_, e, by omega⟩
  rw [e, ← List.drop_drop, h, List.drop_left']
  rfl
def toP (s : ByteArray) (x : Option (Nd × List UInt8)) : Option (Nd × Nat) := x.map fun r => (r.1, s.size - r.2.length)
theorem word_at (s : ByteArray) (p : Nat) (hp : p ≤ s.size) : (s.extract p (wend s p)).data.toList = (s.data.toList.drop p).takeWhile nd_ ∧ s.data.toList.drop (wend s p) = (s.data.toList.drop p).dropWhile nd_ ∧ s.size - ((s.data.toList.drop p).dropWhile nd_).length = wend s p := by
  have h1 : (s.extract p (wend s p)).data.toList = (s.data.toList.drop p).takeWhile nd_ := by
    unfold wend
    rw [ext_take, take_while_take]
    rfl
  have hs := tw_split (s.data.toList.drop p)
  obtain ⟨a, b, c⟩ := drop_suf hp hs
  have hw : wend s p = s.size - ((s.data.toList.drop p).dropWhile nd_).length := by
    rw [b]; rfl
  exact ⟨h1, by rw [hw]; exact a, hw.symm⟩
theorem endL_P (s : ByteArray) (k : Int) (n : Nat) (parts : List ByteArray) (p : Nat) (hp : p ≤ s.size) : rdEnd s k n parts p = toP s (endL k n parts (s.data.toList.drop p)) := by
  unfold rdEnd
  rw [show (41 : Int) = (((41 : UInt8).toNat : Nat) : Int) from rfl, peek_head]
  by_cases h : (s.data.toList.drop p).head? = some 41
  · rw [if_pos (decide_eq_true h)]
    have e := head_tail h
    obtain ⟨_, b, c⟩ := drop_suf (x := [41]) (y := (s.data.toList.drop p).tail) hp e
    rw [e]
    unfold endL
    simp only
    split
    · unfold toP
      simp only [Option.map_some]
      rw [b]
      rfl
    · rfl
  · rw [if_neg (show ¬ (decide ((s.data.toList.drop p).head? = some (41 : UInt8)) = true) by rw [decide_eq_false h]; decide)]
    unfold endL
    split
    · rename_i e
      rw [e] at h
      exact absurd rfl h
    · rfl
theorem rd_rdL (s : ByteArray) : ∀ (f : Nat) (m : Option (Int × Nat × List ByteArray)) (p : Nat), p ≤ s.size → rd s f m p = toP s (rdL f m (s.data.toList.drop p)) := by
  intro f
  induction f with
  | zero => intro m p _; rfl
  | succ f ih =>
    intro m p hp
    have hopen : ∀ (k : Int) (n : Nat) (j : Nat), j ≤ s.size → (if peekV s j 41 = true then rdEnd s k n [] j else rd s f (some (k, n, [])) j) = toP s (openL (rdL f (some (k, n, []))) k n (s.data.toList.drop j)) := by
      intro k n j hj
      rw [show (41 : Int) = (((41 : UInt8).toNat : Nat) : Int) from rfl, peek_head]
      unfold openL
      by_cases h : (s.data.toList.drop j).head? = some 41
      · rw [if_pos (decide_eq_true h), if_pos h]
        exact endL_P s k n [] j hj
      · rw [if_neg (show ¬ (decide ((s.data.toList.drop j).head? = some (41 : UInt8)) = true) by rw [decide_eq_false h]; decide), if_neg h]
        exact ih _ _ hj
    cases m with
    | none =>
      rw [rd, rdL_none]
      by_cases hlt : p < s.size
      · rw [dif_pos hlt, drop_at s p hlt, tmL]
        have hkr := kind_le (s[p].toNat : Int)
        generalize kindV (s[p].toNat : Int) = k at *
        obtain ⟨w1, w2, w3⟩ := word_at s (p + 1) (by omega)
        split
        · rfl
        · split
          · unfold toP
            simp only [Option.map_some]
            congr 2
            rw [List.length_drop]
            have hsz : s.data.toList.length = s.size := rfl
            omega
          · split
            · rw [w1]
              cases numK k ((s.data.toList.drop (p + 1)).takeWhile nd_) with
              | none => rfl
              | some n =>
                unfold toP
                simp only [Option.map_some]
                rw [w3]
            · split
              · rw [w1]
                split
                · unfold toP
                  simp only [Option.map_some]
                  rw [w3]
                · rfl
              · rw [show (40 : Int) = (((40 : UInt8).toNat : Nat) : Int) from rfl, peek_head]
                by_cases h40 : (s.data.toList.drop (p + 1)).head? = some 40
                · rw [if_neg (show ¬ (decide ((s.data.toList.drop (p + 1)).head? = some (40 : UInt8)) = false) by rw [decide_eq_true h40]; decide), if_neg (show ¬ ((s.data.toList.drop (p + 1)).head? ≠ some 40) from fun h => h h40)]
                  have hlt2 : p + 1 < s.size := by
                    apply Decidable.byContradiction
                    intro h
                    rw [List.drop_of_length_le (by have hsz : s.data.toList.length = s.size := rfl; omega)] at h40
                    cases h40
                  have ht : (s.data.toList.drop (p + 1)).tail = s.data.toList.drop (p + 2) := by rw [drop_at s (p + 1) hlt2]; rfl
                  rw [ht]
                  obtain ⟨v1, v2, v3⟩ := word_at s (p + 2) (by omega)
                  split
                  · rw [v1]
                    cases numK k ((s.data.toList.drop (p + 2)).takeWhile nd_) with
                    | none => rfl
                    | some n =>
                      simp only
                      rw [show (44 : Int) = (((44 : UInt8).toNat : Nat) : Int) from rfl, peek_head, v2]
                      by_cases h44 : ((s.data.toList.drop (p + 2)).dropWhile nd_).head? = some 44
                      · rw [if_neg (show ¬ (decide (((s.data.toList.drop (p + 2)).dropWhile nd_).head? = some (44 : UInt8)) = false) by rw [decide_eq_true h44]; decide), if_neg (show ¬ (((s.data.toList.drop (p + 2)).dropWhile nd_).head? ≠ some 44) from fun h => h h44)]
                        have hlt3 : wend s (p + 2) < s.size := by
                          apply Decidable.byContradiction
                          intro h
                          rw [← v2, List.drop_of_length_le (by have hsz : s.data.toList.length = s.size := rfl; omega)] at h44
                          cases h44
                        have ht3 : ((s.data.toList.drop (p + 2)).dropWhile nd_).tail = s.data.toList.drop (wend s (p + 2) + 1) := by rw [← v2, drop_at s _ hlt3]; rfl
                        rw [ht3]
                        exact hopen _ _ _ (by omega)
                      · rw [if_pos (show decide (((s.data.toList.drop (p + 2)).dropWhile nd_).head? = some (44 : UInt8)) = false from decide_eq_false h44), if_pos h44]
                        rfl
                  · exact hopen _ _ _ (by omega)
                · rw [if_pos (show decide ((s.data.toList.drop (p + 1)).head? = some (40 : UInt8)) = false from decide_eq_false h40), if_pos h40]
                  rfl
      · rw [dif_neg hlt, List.drop_of_length_le (by simpa using hlt)]
        rfl
    | some kp =>
      obtain ⟨k, n, parts⟩ := kp
      rw [rd_some, rdL_some, ih none p hp]
      unfold ptL
      cases hq : rdL f none (s.data.toList.drop p) with
      | none => rfl
      | some r =>
        obtain ⟨nd, y⟩ := r
        obtain ⟨x, e, _⟩ := rdL_suf hq
        obtain ⟨a, b, c⟩ := drop_suf hp e
        have hpart : bytesOf ((s.data.toList.drop p).take ((s.data.toList.drop p).length - y.length)) = s.extract p (s.size - y.length) := by
          have h1 : (s.extract p (s.size - y.length)).data.toList = (s.data.toList.drop p).take ((s.data.toList.drop p).length - y.length) := by
            rw [b, ext_take]
            congr 1
            rw [e, List.length_append]
            omega
          rw [← h1]
          exact ByteArray.ext (Array.toArray_toList)
        show (if _ then _ else _) = toP s (if _ then _ else _)
        simp only
        rw [hpart]
        generalize s.extract p (s.size - y.length) = part
        by_cases hg : k = 6 ∧ parts.length = 1 ∧ gtB (parts.getLastD ByteArray.empty) part = true
        · rw [if_pos hg, if_pos hg]; rfl
        · rw [if_neg hg, if_neg hg]
          rw [show (44 : Int) = (((44 : UInt8).toNat : Nat) : Int) from rfl, peek_head, a]
          by_cases h44 : y.head? = some 44
          · rw [if_pos (decide_eq_true h44), if_pos h44]
            have hlt : s.size - y.length < s.size := by
              have := head_tail h44
              have hl := congrArg List.length this
              simp at hl
              omega
            have ht : y.tail = s.data.toList.drop (s.size - y.length + 1) := by
              have h := congrArg List.tail a
              rw [drop_at s _ hlt] at h
              exact h.symm
            rw [ht]
            exact ih _ _ (by omega)
          · rw [if_neg (show ¬ (decide (y.head? = some (44 : UInt8)) = true) by rw [decide_eq_false h44]; decide), if_neg h44]
            have h := endL_P s k n (parts ++ [part]) (s.size - y.length) (by omega)
            rw [a] at h
            exact h
/-- A text as a term as a whole, over lists. -/
def whole (x : Option (Nd × List UInt8)) : Option Nd :=
  match x with
  | some (nd, []) => some nd
  | _ => none
theorem parse_list (s : ByteArray) : parseV s = if 65536 < s.size then none else whole (rdL (2 * s.size + 2) none s.data.toList) := by
  unfold parseV
  split
  · rfl
  · rw [rd_rdL s _ _ 0 (by omega), List.drop_zero]
    cases hq : rdL (2 * s.size + 2) none s.data.toList with
    | none => rfl
    | some r =>
      obtain ⟨nd, y⟩ := r
      obtain ⟨x, e, _⟩ := rdL_suf hq
      have hl := congrArg List.length e
      rw [List.length_append] at hl
      have hsz : s.data.toList.length = s.size := rfl
      show (if s.size - y.length = s.size then some nd else none) = _
      cases y with
      | nil => rw [if_pos (by simp)]; rfl
      | cons c r => rw [if_neg (by simp at hl ⊢; omega)]; rfl
end
section
open Go.RowKit Go.Deep

theorem accN_append : ∀ (l m : List UInt8) (u : Nat), accN (l ++ m) u = (accN l u).bind (accN m)
  | [], m, u => rfl
  | c :: r, m, u => by
    rw [List.cons_append, accN, accN]
    split
    · rfl
    · exact accN_append r m _
theorem dgt_nat (n : Nat) (h : n < 10) : (UInt8.ofNat (48 + n)).toNat = 48 + n := by rw [UInt8.toNat_ofNat']; omega
theorem accN_one (n v : Nat) (h : n < 10) (hv : v * 10 + n < 18446744073709551616) : accN [UInt8.ofNat (48 + n)] v = some (v * 10 + n) := by
  rw [accN, dgt_nat n h, if_neg (by omega), accN]
  simp
theorem accN_dec (u : Nat) (hu : u < 18446744073709551616) : accN (Lib.decDigits u) 0 = some u := by
  induction u using Nat.strongRecOn with
  | ind u ih =>
    by_cases h : u < 10
    · rw [Lib.decDigits_one h, accN_one u 0 h (by omega)]
      simp
    · rw [dec_split u h, accN_append, ih (u / 10) (by omega) (by omega)]
      show accN _ (u / 10) = _
      rw [accN_one (u % 10) (u / 10) (by omega) (by omega)]
      congr 1
      omega
theorem dec_dig (u : Nat) : (Lib.decDigits u).all digB = true := by
  have hone : ∀ n : Nat, n < 10 → [UInt8.ofNat (48 + n)].all digB = true := fun n h => by
    simp only [List.all_cons, List.all_nil, Bool.and_true]
    unfold digB
    rw [dgt_nat n h]
    simp
    omega
  induction u using Nat.strongRecOn with
  | ind u ih =>
    by_cases h : u < 10
    · rw [Lib.decDigits_one h]; exact hone u h
    · rw [dec_split u h, List.all_append, ih (u / 10) (by omega), hone _ (by omega)]; rfl
theorem dec_ne (u : Nat) : Lib.decDigits u ≠ [] := by
  by_cases h : u < 10
  · rw [Lib.decDigits_one h]; simp
  · rw [dec_split u h]; simp
theorem dec_head (u : Nat) (h0 : 0 < u) : (Lib.decDigits u).head? ≠ some 48 := by
  induction u using Nat.strongRecOn with
  | ind u ih =>
    by_cases h : u < 10
    · rw [Lib.decDigits_one h]
      intro e
      have e2 : UInt8.ofNat (48 + u) = 48 := by simpa using e
      have e3 := congrArg UInt8.toNat e2
      rw [dgt_nat u h] at e3
      have : (48 : UInt8).toNat = 48 := rfl
      omega
    · rw [dec_split u h, List.head?_append]
      have := ih (u / 10) (by omega) (by omega)
      cases hh : (Lib.decDigits (u / 10)).head? with
      | none => rw [List.head?_eq_none_iff] at hh; exact absurd hh (dec_ne _)
      | some x => rw [hh] at this; exact this
theorem numR_dec (u : Nat) (hu : u < 18446744073709551616) : numR (Lib.decDigits u) = (u, 0) := by
  unfold numR
  rw [if_neg (dec_ne u), if_neg (by rw [dec_dig u]; simp), if_neg, accN_dec u hu]
  rintro ⟨h1, h2⟩
  rcases Nat.eq_zero_or_pos u with h | h
  · subst h; rw [Lib.decDigits_one (by omega)] at h2; simp at h2
  · exact dec_head u h h1
theorem dig_back (c : UInt8) (h : digB c = true) : UInt8.ofNat (48 + (c.toNat - 48)) = c := by
  unfold digB at h
  simp only [Bool.and_eq_true, decide_eq_true_eq] at h
  rw [show 48 + (c.toNat - 48) = c.toNat by omega]
  exact UInt8.ofNat_toNat
theorem accN_back : ∀ (l : List UInt8) (v u : Nat), 0 < v → l.all digB = true → accN l v = some u → Lib.decDigits u = Lib.decDigits v ++ l
  | [], v, u, _, _, h => by
    simp only [accN, Option.some.injEq] at h
    rw [h, List.append_nil]
  | c :: r, v, u, hv, hd, h => by
    simp only [List.all_cons, Bool.and_eq_true] at hd
    rw [accN] at h
    split at h
    · cases h
    · have hc := hd.1
      unfold digB at hc
      simp only [Bool.and_eq_true, decide_eq_true_eq] at hc
      have := accN_back r _ u (by omega) hd.2 h
      rw [this, dec_split _ (by omega), show (v * 10 + (c.toNat - 48)) / 10 = v by omega, show (v * 10 + (c.toNat - 48)) % 10 = c.toNat - 48 by omega, dig_back c hd.1, List.append_assoc]
      rfl
theorem numR_back (l : List UInt8) (h : (numR l).2 = 0) : Lib.decDigits (numR l).1 = l := by
  unfold numR at h ⊢
  split
  · rename_i h1; rw [if_pos h1] at h; cases h
  · rename_i h1
    rw [if_neg h1] at h
    split
    · rename_i h2; rw [if_pos h2] at h; cases h
    · rename_i h2
      rw [if_neg h2] at h
      split
      · rename_i h3; rw [if_pos h3] at h; cases h
      · rename_i h3
        rw [if_neg h3] at h
        cases hA : accN l 0 with
        | none => rw [hA] at h; cases h
        | some u =>
          show Lib.decDigits u = l
          cases l with
          | nil => exact absurd rfl h1
          | cons c r =>
            have hd : (c :: r).all digB = true := by simpa using h2
            simp only [List.all_cons, Bool.and_eq_true] at hd
            rw [accN] at hA
            split at hA
            · cases hA
            · have hc := hd.1
              unfold digB at hc
              simp only [Bool.and_eq_true, decide_eq_true_eq] at hc
              rw [Nat.zero_mul, Nat.zero_add] at hA
              rcases Nat.eq_zero_or_pos (c.toNat - 48) with hz | hz
              · have hc48 : c = 48 := UInt8.toNat_inj.1 (by have : (48 : UInt8).toNat = 48 := rfl; omega)
                have hr : r = [] := by
                  cases r with
                  | nil => rfl
                  | cons d t => exact absurd ⟨by rw [hc48]; rfl, by simp⟩ h3
                subst hr
                rw [hz] at hA
                simp only [accN, Option.some.injEq] at hA
                subst hA
                rw [Lib.decDigits_one (by omega), hc48]
                rfl
              · rw [accN_back r _ u hz hd.2 hA, Lib.decDigits_one (by omega), dig_back c hd.1]
                rfl

theorem hd_hex (n : Nat) (h : n < 16) : hexB (hd n) = true ∧ nib (hd n) = n := (hd_eq n h (hd n)).1 rfl
theorem hd_nib (c : UInt8) (h : hexB c = true) : hd (nib c) = c := UInt8.toNat_inj.1 ((hd_eq (nib c) (nib_lt c) c).2 ⟨h, rfl⟩)
theorem hexS_hex : ∀ l : List UInt8, (hexS l).all hexB = true
  | [] => rfl
  | b :: r => by
    have := b.toNat_lt
    simp only [hexS, List.all_cons, (hd_hex (b.toNat / 16) (by omega)).1, (hd_hex (b.toNat % 16) (by omega)).1, hexS_hex r, Bool.and_self]
theorem hexP_hexS : ∀ l : List UInt8, hexP (hexS l) = l
  | [] => rfl
  | b :: r => by
    have := b.toNat_lt
    rw [hexS, hexP, hexP_hexS r, (hd_hex (b.toNat / 16) (by omega)).2, (hd_hex (b.toNat % 16) (by omega)).2, show 16 * (b.toNat / 16) + b.toNat % 16 = b.toNat by omega]
    congr 1
    exact UInt8.ofNat_toNat
theorem hexR_hexS (l : List UInt8) : hexR (hexS l) = (l, 0) := by
  unfold hexR
  rw [if_neg (by rw [hexS_hex l]; simp), if_neg (by rw [hexS_length l]; omega), hexP_hexS l]
theorem hexS_hexP : ∀ l : List UInt8, l.all hexB = true → l.length % 2 = 0 → hexS (hexP l) = l
  | [], _, _ => rfl
  | [a], _, h => by simp at h
  | a :: b :: r, hh, h => by
    simp only [List.all_cons, Bool.and_eq_true] at hh
    have ha := nib_lt a
    have hb := nib_lt b
    have hx : (UInt8.ofNat (16 * nib a + nib b)).toNat = 16 * nib a + nib b := by rw [UInt8.toNat_ofNat']; omega
    rw [hexP, hexS, hx, show (16 * nib a + nib b) / 16 = nib a by omega, show (16 * nib a + nib b) % 16 = nib b by omega, hd_nib a hh.1, hd_nib b hh.2.1, hexS_hexP r hh.2.2 (by simp only [List.length_cons] at h; omega)]
theorem hexR_back (l : List UInt8) (h : (hexR l).2 = 0) : hexS (hexR l).1 = l := by
  unfold hexR at h ⊢
  split
  · rename_i h1; rw [if_pos h1] at h; cases h
  · rename_i h1
    rw [if_neg h1] at h
    split
    · rename_i h2; rw [if_pos h2] at h; cases h
    · rename_i h2
      exact hexS_hexP l (by simpa using h1) (by omega)
end
end Go.Proofs.YtcokjoidpnfjhaaGreatDoor

/-
  The law SlotsActs: words, and what each act makes of them. Plain theorems on memory. No condition.
-/
import Derived.Test.YtjkgmkkhjpcngaaSo7
import Derived.Test.YtjkgmkkhjpcngaaSls
namespace Go.Proofs.Ytjkgmkkhjpcngaa
open Go.RowKit Go.Deep

abbrev Ac := Int × Int × Int × Int
def acC (x : Ac) : List Value := [.int .u8 x.1, .int .u32 x.2.1, .int .i64 x.2.2.1, .int .u16 x.2.2.2]

theorem own_ne {w : World} {base e size n g t : Nat} {v : Value} {xs : List Value} {cs : Array Value} (h : w.ownsRow base e size v n xs) (hg : Blk w g t cs) (hte : t ≠ e) : some g ≠ v.ownBlock := by
  rcases h.2 with ⟨rfl, _⟩ | ⟨g3, cap, cur, rfl, _, hh, _⟩
  · intro h; cases h
  · intro h
    injection h with h
    subst h
    exact (Blk.ne_ (t' := e) (cs' := cur) hg hh hte) rfl

/-- What stands at the head of a round: B the base of the row of all pairs. -/
structure ActSt (w : World) (B S M : Nat) (v : Value) (gs : List PK) (mp mc mn : Option Nat) : Prop where
  slots : SlotsIs w S (blkO (getO gs mp)) (blkO (getO gs mc)) (blkO (getO gs mn))
  mem : Blk w M 56 #[.int .i64 (enc mp), .int .i64 (enc mc), .int .i64 (enc mn)]
  own : w.ownsRow B 61 1 v gs.length (ptrs gs)
  pairs : ∀ x ∈ gs, PairK w x.1 x.2.1 x.2.2 ∧ 0 ≤ x.2.2 ∧ x.2.2 ≤ 1000000
  dist : (gs.map (·.1)).Nodup
  ip : ∀ i, mp = some i → i < gs.length
  ic : ∀ i, mc = some i → i < gs.length
  inx : ∀ i, mn = some i → i < gs.length
  inv : mp ≠ none → mc ≠ none

section
variable {w w' : World} {B S M : Nat} {v : Value} {gs : List PK} {mp mc mn : Option Nat}
theorem ActSt.st (h : ActSt w B S M v gs mp mc mn) : SlSt w S v gs mp mc mn :=
  ⟨h.slots, (Rd.of_own (N := []) h.own (by simp)).1, h.pairs, h.ip, h.ic, h.inx⟩
theorem ActSt.only (h : ActSt w B S M v gs mp mc mn) (ho : Only [] w w') : ActSt w' B S M v gs mp mc mn :=
  ⟨Blk.only h.slots ho (by simp), h.mem.only ho (by simp), own_only h.own ho (by simp), fun x hx => ⟨(h.pairs x hx).1.only ho (by simp), (h.pairs x hx).2⟩, h.dist, h.ip, h.ic, h.inx, h.inv⟩
theorem ActSt.sm (h : ActSt w B S M v gs mp mc mn) : S ≠ M := Blk.ne_ h.slots h.mem (by decide)
theorem pair_ne_slots {g : Nat} {lo made : Int} {p c n : Option Nat} (h : PairK w g lo made) (hs : SlotsIs w S p c n) : g ≠ S := by
  obtain ⟨c, h⟩ := h
  exact Blk.ne_ h hs (by decide)
theorem pair_ne_mem {g : Nat} {lo made : Int} {cs : Array Value} (h : PairK w g lo made) (hs : Blk w M 56 cs) : g ≠ M := by
  obtain ⟨c, h⟩ := h
  exact Blk.ne_ h hs (by decide)
/-- A store into the reference's slots, or into the slots, leaves the rest. -/
theorem ActSt.put (h : ActSt w B S M v gs mp mc mn) (ho : Only [S, M] w w') {mp' mc' mn' : Option Nat} (hs : SlotsIs w' S (blkO (getO gs mp')) (blkO (getO gs mc')) (blkO (getO gs mn')))
    (hm : Blk w' M 56 #[.int .i64 (enc mp'), .int .i64 (enc mc'), .int .i64 (enc mn')]) (hi : ∀ i, mp' = some i ∨ mc' = some i ∨ mn' = some i → i < gs.length) (hv : mp' ≠ none → mc' ≠ none) : ActSt w' B S M v gs mp' mc' mn' := by
  refine ⟨hs, hm, ?_, fun x hx => ⟨(h.pairs x hx).1.only ho ?_, (h.pairs x hx).2⟩, h.dist, fun i e => hi i (.inl e), fun i e => hi i (.inr (.inl e)), fun i e => hi i (.inr (.inr e)), hv⟩
  · obtain ⟨h1, h2⟩ := h.own
    refine ⟨h1, ?_⟩
    rcases h2 with h2 | ⟨g, cap, cur, rfl, hg, hh, h3⟩
    · exact .inl h2
    · refine .inr ⟨g, cap, cur, rfl, hg, (ho.block g (Blk.lt (t := 61) (cs := cur) hh) ?_).trans hh, h3⟩
      have e1 : g ≠ S := Blk.ne_ (t := 61) (cs := cur) hh h.slots (by decide)
      have e2 : g ≠ M := Blk.ne_ (t := 61) (cs := cur) hh h.mem (by decide)
      simp [e1, e2]
  · have e1 := pair_ne_slots (h.pairs x hx).1 h.slots
    have e2 := pair_ne_mem (h.pairs x hx).1 h.mem
    simp [e1, e2]
/-- One more pair in the row. -/
theorem ActSt.push (h : ActSt w B S M v gs mp mc mn) {g : Nat} {lo made : Int} (hk : PairK w g lo made) (hm0 : 0 ≤ made) (hm1 : made ≤ 1000000) (hne : ∀ x ∈ gs, x.1 ≠ g) {v' : Value} (hg : w.grownBy w' v.ownBlock)
    (hown : w'.ownsRow B 61 1 v' (gs.length + 1) (ptrs gs ++ [pv (some g)])) : ActSt w' B S M v' (gs ++ [(g, lo, made)]) mp mc mn := by
  have hget : ∀ m : Option Nat, (∀ i, m = some i → i < gs.length) → getO (gs ++ [(g, lo, made)]) m = getO gs m := by
    intro m hm
    cases m with
    | none => rfl
    | some i => show (gs ++ [(g, lo, made)])[i]? = gs[i]?; rw [List.getElem?_append_left (hm i rfl)]
  have keep : ∀ {b t : Nat} {cs : Array Value}, Blk w b t cs → t ≠ 61 → Blk w' b t cs := fun hb ht => hb.grown hg (own_ne h.own hb ht)
  have keepP : ∀ {b : Nat} {lo made : Int}, PairK w b lo made → PairK w' b lo made := fun ⟨c, hc⟩ => ⟨c, keep hc (by decide)⟩
  refine ⟨by rw [hget mp h.ip, hget mc h.ic, hget mn h.inx]; exact keep h.slots (by decide), keep h.mem (by decide), ?_, fun x hx => ?_, ?_, fun i e => ?_, fun i e => ?_, fun i e => ?_, h.inv⟩
  · rw [List.length_append, List.length_singleton, show ptrs (gs ++ [(g, lo, made)]) = ptrs gs ++ [pv (some g)] by simp [ptrs]]
    exact hown
  · rcases List.mem_append.1 hx with hx | hx
    · exact ⟨keepP (h.pairs x hx).1, (h.pairs x hx).2⟩
    · rw [List.mem_singleton.1 hx]
      exact ⟨keepP hk, hm0, hm1⟩
  · rw [List.map_append, List.nodup_append]
    refine ⟨h.dist, by simp, fun a ha b hb => ?_⟩
    obtain ⟨x, hx, rfl⟩ := List.mem_map.1 ha
    simp at hb
    rw [hb]
    exact hne x hx
  · have := h.ip i e; rw [List.length_append]; omega
  · have := h.ic i e; rw [List.length_append]; omega
  · have := h.inx i e; rw [List.length_append]; omega
theorem ActSt.ne_new (h : ActSt w B S M v gs mp mc mn) {g : Nat} (hg : w.heap.size ≤ g) : ∀ x ∈ gs, x.1 ≠ g := by
  intro x hx
  obtain ⟨c, hc⟩ := (h.pairs x hx).1
  have := Blk.lt hc
  omega
theorem get_last (gs : List PK) (x : PK) : getO (gs ++ [x]) (some gs.length) = some x := by show (gs ++ [x])[gs.length]? = _; simp
theorem ActSt.other (h : ActSt w B S M v gs mp mc mn) {i j : Nat} {x y : PK} (hx : gs[i]? = some x) (hy : gs[j]? = some y) (hne : i ≠ j) : x.1 ≠ y.1 := by
  intro e
  have hi := (List.getElem?_eq_some_iff.1 hx)
  have hj := (List.getElem?_eq_some_iff.1 hy)
  obtain ⟨hi, hi2⟩ := hi
  obtain ⟨hj, hj2⟩ := hj
  have hp := List.pairwise_iff_getElem.1 h.dist
  rcases Nat.lt_or_gt_of_ne hne with hlt | hlt
  · exact hp i j (by simpa using hi) (by simpa using hj) hlt (by simp [hi2, hj2, e])
  · exact hp j i (by simpa using hj) (by simpa using hi) hlt (by simp [hi2, hj2, e])
theorem enc_le (m : Option Nat) : (0 ≤ enc m ↔ m ≠ none) := by
  cases m with
  | none => simp [enc]
  | some i => simp [enc]
theorem enc_eq (m : Option Nat) (k : Nat) : (enc m = (k : Int) ↔ m = some k) := by
  cases m with
  | none => simp [enc]
  | some i => simp [enc]; omega
theorem cnt_enc (gs : List PK) (m : Option Nat) (h : ∀ i, m = some i → i < gs.length) : cnt (blkO (getO gs m)) = cntI (enc m) := by
  cases m with
  | none => rfl
  | some i =>
    obtain ⟨y, hy⟩ : ∃ y, gs[i]? = some y := ⟨_, List.getElem?_eq_getElem (h i rfl)⟩
    show cnt (blkO (gs[i]?)) = cntI (i : Int)
    rw [hy]
    unfold cntI
    rw [if_pos (by omega)]
    rfl
end
section
variable {w w' : World} {B S M : Nat} {v : Value} {gs : List PK} {mp mc mn : Option Nat}
theorem blk_none (h : ActSt w B S M v gs mp mc mn) {m : Option Nat} (hm : ∀ i, m = some i → i < gs.length) : blkO (getO gs m) = none ↔ m = none := by
  cases m with
  | none => exact ⟨fun _ => rfl, fun _ => rfl⟩
  | some i =>
    obtain ⟨y, hy⟩ : ∃ y, gs[i]? = some y := ⟨_, List.getElem?_eq_getElem (hm i rfl)⟩
    have e : blkO (getO gs (some i)) = some y.1 := by show blkO (gs[i]?) = _; rw [hy]; rfl
    rw [e]
    exact ⟨(fun h => (by cases h)), (fun h => (by cases h))⟩
theorem ActSt.begun (h : ActSt w B S M v gs mp mc mn) (ho : Only [S, M] w w') {q g : Nat} {x : PK} (hq : gs[q]? = some x) (hg : x.1 = g) (hs : SlotsIs w' S (begP (blkO (getO gs mp)) (blkO (getO gs mc)) (blkO (getO gs mn))) (some g) none) {a b : Int}
    (ha : a = if 0 ≤ enc mn then enc mn else enc mc) (hb : b = q) (hm : Blk w' M 56 #[.int .i64 a, .int .i64 b, .int .i64 (-1)]) : ActSt w' B S M v gs (if mn = none then mc else mn) (some q) none := by
  subst ha hb
  have hlt := (List.getElem?_eq_some_iff.1 hq).1
  refine h.put ho ?_ ?_ (fun i e => ?_) (fun _ => by simp)
  · have e1 : begP (blkO (getO gs mp)) (blkO (getO gs mc)) (blkO (getO gs mn)) = blkO (getO gs (if mn = none then mc else mn)) := by
      unfold begP
      by_cases h1 : mn = none
      · rw [if_pos ((blk_none h h.inx).2 h1), if_pos h1]
        by_cases h2 : mc = none
        · rw [if_pos ((blk_none h h.ic).2 h2)]
          have h3 : mp = none := Classical.byContradiction fun hp => h.inv hp h2
          rw [h2, h3]
        · rw [if_neg (fun hh => h2 ((blk_none h h.ic).1 hh))]
      · rw [if_neg (fun hh => h1 ((blk_none h h.inx).1 hh)), if_neg h1]
    rw [← e1, show blkO (getO gs (some q)) = some g by show blkO (gs[q]?) = _; rw [hq, ← hg]; rfl]
    exact hs
  · have e2 : enc (if mn = none then mc else mn) = if 0 ≤ enc mn then enc mn else enc mc := by
      by_cases h1 : mn = none
      · rw [if_pos h1, if_neg (fun hh => (enc_le mn).1 hh h1)]
      · rw [if_neg h1, if_pos ((enc_le mn).2 h1)]
    rw [e2]
    exact hm
  · rcases e with e | e | e
    · by_cases h1 : mn = none
      · rw [if_pos h1] at e; exact h.ic i e
      · rw [if_neg h1] at e; exact h.inx i e
    · injection e with e; omega
    · cases e
theorem ActSt.heard (h : ActSt w B S M v gs mp mc mn) (ho : Only [S, M] w w') {q g : Nat} {x : PK} (hq : gs[q]? = some x) (hg : x.1 = g) (hs : SlotsIs w' S (blkO (getO gs mp)) (blkO (getO gs mc)) (some g)) {b : Int} (hb : b = q)
    (hm : Blk w' M 56 #[.int .i64 (enc mp), .int .i64 (enc mc), .int .i64 b]) : ActSt w' B S M v gs mp mc (some q) := by
  subst hb
  have hlt := (List.getElem?_eq_some_iff.1 hq).1
  refine h.put ho ?_ hm (fun i e => ?_) h.inv
  · rw [show blkO (getO gs (some q)) = some g by show blkO (gs[q]?) = _; rw [hq, ← hg]; rfl]
    exact hs
  · rcases e with e | e | e
    · exact h.ip i e
    · exact h.ic i e
    · injection e with e; omega
theorem ActSt.confirmed {q : Nat} (h : ActSt w B S M v gs mp mc (some q)) (ho : Only [S, M] w w') {g : Nat} {x : PK} (hq : gs[q]? = some x) (hg : x.1 = g) (hs : SlotsIs w' S (if blkO (getO gs mc) = none then blkO (getO gs mp) else blkO (getO gs mc)) (some g) none) {b : Int} (hb : b = q)
    (hm : Blk w' M 56 #[.int .i64 (enc mc), .int .i64 b, .int .i64 (-1)]) : ActSt w' B S M v gs mc (some q) none := by
  subst hb
  have hlt := (List.getElem?_eq_some_iff.1 hq).1
  refine h.put ho ?_ hm (fun i e => ?_) (fun _ => by simp)
  · have e1 : (if blkO (getO gs mc) = none then blkO (getO gs mp) else blkO (getO gs mc)) = blkO (getO gs mc) := by
      by_cases h2 : mc = none
      · have h3 : mp = none := Classical.byContradiction fun hp => h.inv hp h2
        rw [if_pos ((blk_none h h.ic).2 h2), h2, h3]
      · rw [if_neg (fun hh => h2 ((blk_none h h.ic).1 hh))]
    rw [show blkO (getO gs (some q)) = some g by show blkO (gs[q]?) = _; rw [hq, ← hg]; rfl, ← e1]
    exact hs
  · rcases e with e | e | e
    · exact h.ic i e
    · injection e with e; omega
    · cases e
theorem ActSt.erased (h : ActSt w B S M v gs mp mc mn) (ho : Only [S, M] w w') (hs : SlotsIs w' S none none none) (hm : Blk w' M 56 #[.int .i64 (-1), .int .i64 (-1), .int .i64 (-1)]) : ActSt w' B S M v gs none none none :=
  h.put ho hs hm (fun i e => by rcases e with e | e | e <;> cases e) (fun hh => absurd rfl hh)
theorem only_sm {a w w' : World} (h : Only [] a w) (ho : Only [S, M] w w') (hS : a.heap.size ≤ S) (hM : a.heap.size ≤ M) : Only [] a w' :=
  ((h.mono (S' := [S, M]) (fun x hx => by cases hx)).trans ho).mono fun x hx => .inr (by simp at hx; rcases hx with rfl | rfl <;> assumption)
end
end Go.Proofs.Ytjkgmkkhjpcngaa

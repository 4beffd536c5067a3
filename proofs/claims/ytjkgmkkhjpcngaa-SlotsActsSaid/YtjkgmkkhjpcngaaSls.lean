/-
  'RdS k F w N v l': the slice value v reads as the list l, each element as k cells (F); it lies in no block of N. Plain theorems on memory. No condition.
-/
import Derived.Test.YtjkgmkkhjpcngaaOpen
import Derived.Test.YtjkgmkkhjpcngaaCopy
namespace Go.Proofs.Ytjkgmkkhjpcngaa
open Go.RowKit Go.Deep

def RdS {α : Type} (k : Nat) (F : α → List Value) (w : World) (N : List Nat) (v : Value) (l : List α) : Prop :=
  ∃ (A : Option Addr) (cap : Nat), v = .slice A l.length cap ∧ l.length ≤ cap ∧ cap ≤ maxLen ∧
    (l = [] ∨ ∃ g o, A = some ⟨g, o, none⟩ ∧ g ∉ N ∧ g < w.heap.size ∧ ∀ i p, l[i]? = some p → ∀ j u, (F p)[j]? = some u → w.cell? ⟨g, o + (i * k + j), none⟩ = some u)

section
variable {α : Type} {k : Nat} {F : α → List Value} {w w' : World} {N S : List Nat} {v : Value} {l : List α}
theorem RdS.nil (w : World) (N : List Nat) : RdS k F w N (.slice none 0 0) [] := ⟨none, 0, rfl, Nat.le_refl _, Nat.zero_le _, .inl rfl⟩
theorem RdS.form (h : RdS k F w N v l) : ∃ A cap, v = .slice A l.length cap ∧ l.length ≤ cap ∧ cap ≤ maxLen := by
  obtain ⟨A, cap, hv, hc, hm, _⟩ := h
  exact ⟨A, cap, hv, hc, hm⟩
theorem RdS.only (h : RdS k F w N v l) (ho : Only S w w') (hs : ∀ x ∈ S, x ∈ N) : RdS k F w' N v l := by
  obtain ⟨A, cap, hv, hc, hm, h⟩ := h
  refine ⟨A, cap, hv, hc, hm, ?_⟩
  rcases h with h | ⟨g, o, hA, hg, hl, hcell⟩
  · exact .inl h
  · exact .inr ⟨g, o, hA, hg, Nat.lt_of_lt_of_le hl ho.size, fun i p hp j u hu => (cell_only ho hl (fun hh => hg (hs _ hh))).trans (hcell i p hp j u hu)⟩
theorem RdS.more {N' : List Nat} (h : RdS k F w N v l) (hs : ∀ x ∈ N', x ∈ N ∨ w.heap.size ≤ x) : RdS k F w N' v l := by
  obtain ⟨A, cap, hv, hc, hm, h⟩ := h
  refine ⟨A, cap, hv, hc, hm, ?_⟩
  rcases h with h | ⟨g, o, hA, hg, hl, hcell⟩
  · exact .inl h
  · exact .inr ⟨g, o, hA, fun hh => (hs g hh).elim hg (by omega), hl, hcell⟩
/-- The address, once there is an element. -/
theorem RdS.addr {A : Option Addr} {n cap : Nat} (h : RdS k F w N (.slice A n cap) l) (h0 : 0 < l.length) : ∃ g o, A = some ⟨g, o, none⟩ ∧ g ∉ N ∧ g < w.heap.size := by
  obtain ⟨A', cap', hv, _, _, h⟩ := h
  injection hv with h1 h2 h3
  subst h1 h2 h3
  rcases h with h | ⟨g, o, hA, hg, hl, _⟩
  · subst h; simp at h0
  · exact ⟨g, o, hA, hg, hl⟩
theorem RdS.cell {g o n cap : Nat} (h : RdS k F w N (.slice (some ⟨g, o, none⟩) n cap) l) {i : Nat} {p : α} (hp : l[i]? = some p) {j : Nat} {u : Value} (hu : (F p)[j]? = some u) : w.cell? ⟨g, o + (i * k + j), none⟩ = some u := by
  obtain ⟨A', cap', hv, _, _, h⟩ := h
  injection hv with h1 h2 h3
  rcases h with h | ⟨g', o', hA, _, _, hc⟩
  · subst h; simp at hp
  · rw [← h1] at hA
    injection hA with hA
    injection hA with e1 e2
    subst e1 e2
    exact hc i p hp j u hu
end

theorem flat_get {α β : Type} (F : α → List β) (k : Nat) (hk : ∀ p, (F p).length = k) : ∀ (l : List α) (i : Nat) (p : α), l[i]? = some p → ∀ j, j < k → (l.flatMap F)[i * k + j]? = (F p)[j]?
  | [], i, p, h, _, _ => by simp at h
  | x :: r, 0, p, h, j, hj => by
    simp at h
    subst h
    rw [List.flatMap_cons, Nat.zero_mul, Nat.zero_add, List.getElem?_append_left (by rw [hk]; exact hj)]
  | x :: r, i + 1, p, h, j, hj => by
    rw [List.getElem?_cons_succ] at h
    rw [List.flatMap_cons, List.getElem?_append_right (by rw [hk, Nat.succ_mul]; omega), hk, show (i + 1) * k + j - k = i * k + j by rw [Nat.succ_mul]; omega]
    exact flat_get F k hk r i p h j hj
theorem flat_len {α β : Type} (F : α → List β) (k : Nat) (hk : ∀ p, (F p).length = k) (l : List α) : (l.flatMap F).length = l.length * k := by
  induction l with
  | nil => simp
  | cons x r ih => rw [List.flatMap_cons, List.length_append, ih, hk, List.length_cons, Nat.succ_mul, Nat.add_comm]

theorem RdS.of_own {α : Type} {k : Nat} {F : α → List Value} {w : World} {N : List Nat} {v : Value} {l : List α} {base e n : Nat} (hk : ∀ p, (F p).length = k) (hk0 : 0 < k) (h : w.ownsRow base e k v n (l.flatMap F)) (hN : ∀ x ∈ N, x < base) : RdS k F w N v l ∧ l.length = n := by
  obtain ⟨h1, h2⟩ := h
  rw [flat_len F k hk] at h1
  have hn : l.length = n := Nat.eq_of_mul_eq_mul_right hk0 h1
  refine ⟨?_, hn⟩
  rcases h2 with ⟨rfl, rfl⟩ | ⟨g, cap, cur, rfl, hg, hh, hnc, hm, hs, hx⟩
  · rw [List.length_eq_zero_iff] at hn
    subst hn
    exact RdS.nil w N
  · refine ⟨_, cap, by rw [hn], by omega, hm, .inr ⟨g, 0, rfl, fun hh => by have := hN g hh; omega, Blk.lt (t := e) (cs := cur) hh, fun i p hp j u hu => ?_⟩⟩
    have hj : j < k := by
      have := (List.getElem?_eq_some_iff.1 hu).1
      rwa [hk] at this
    have hget := flat_get F k hk l i p hp j hj
    rw [hu, ← hx, List.getElem?_take] at hget
    rw [Nat.zero_add, Blk.cell (t := e) (cs := cur) hh]
    split at hget
    · simpa using hget
    · cases hget

/-- Onto a row of the call's own: one element more. -/
theorem own_snoc {α : Type} {F : α → List Value} {w : World} {base e k n : Nat} {v : Value} {l : List α} {x : α} {m : Nat} (h : w.ownsRow base e k v (n + m) (l.flatMap F ++ F x)) : w.ownsRow base e k v (n + m) ((l ++ [x]).flatMap F) := by
  rw [List.flatMap_append]
  simpa using h

/-- A slice that came in, each element decoded out of its cells. -/
theorem rds_of_trod {H : Type} {enc : TypeId × Value → H} {P : Program} {w : World} {base : Nat} {spare : Nat → Bool} {held : Bool} {α : Type} {F : α → List Value} {Q : α → Prop} {t e : TypeId} {k : Nat} {A : Option Addr} {len cap : Nat} {d : DataW H} {p : List MemPlace}
    (ht : P.underlying t = some (.slice e)) (hC : P.cellsOf e = k) (hk0 : 0 < k) (h : DataW.Trod enc P w base spare held t (.slice A len cap) d p)
    (hdec : ∀ (n : Nat) (cs : List Value) (y : DataW H × List MemPlace), DataW.trod enc P w base spare held n e cs = some y → ∃ x, F x = cs ∧ Q x) :
    ∃ l : List α, RdS k F w [] (.slice A len cap) l ∧ ∀ x ∈ l, Q x := by
  obtain ⟨fuel, hf⟩ := h
  rcases open_slice ht hf with ⟨hcs, _⟩ | ⟨a, l, c, m, n, D, Pl, hcs, _, hl, hm, hmm, _, hi⟩
  · simp [Value.cells] at hcs
    obtain ⟨rfl, rfl, rfl⟩ := hcs
    exact ⟨[], RdS.nil w [], by simp⟩
  · simp [Value.cells] at hcs
    obtain ⟨rfl, rfl, rfl⟩ := hcs
    have hlm : len ≤ m := by rw [hmm]; split <;> omega
    rw [hC] at hi
    rcases Nat.eq_zero_or_pos len with h0 | h0
    · subst h0
      exact ⟨[], ⟨some a, cap, rfl, Nat.zero_le _, hm, .inl rfl⟩, by simp⟩
    have hgood : ∀ i, i < len → ∃ x, (∀ j u, (F x)[j]? = some u → w.cell? (a.add (i * k + j)) = some u) ∧ (F x).length = k ∧ Q x := by
      intro i hlt
      obtain ⟨cs', hc, ht'⟩ := hi i (by omega)
      obtain ⟨x, hx, hq⟩ := hdec _ _ _ ht'
      obtain ⟨_, hcl, hat⟩ := World.cells?_some hc
      refine ⟨x, fun j u hu => ?_, by rw [hx]; exact hcl, hq⟩
      rw [hx] at hu
      have hj : j < k := by rw [← hcl]; exact (List.getElem?_eq_some_iff.1 hu).1
      rw [← Go.Deep.add_add, hat j hj, hu]
    have hel : ∀ i, ∃ x, i < len → (∀ j u, (F x)[j]? = some u → w.cell? (a.add (i * k + j)) = some u) ∧ (F x).length = k ∧ Q x := by
      intro i
      rcases Nat.lt_or_ge i len with hlt | hge
      · obtain ⟨x, hx⟩ := hgood i hlt
        exact ⟨x, fun _ => hx⟩
      · obtain ⟨x, _⟩ := hgood 0 h0
        exact ⟨x, fun hlt => by omega⟩
    obtain ⟨X, hX⟩ := Classical.axiomOfChoice hel
    refine ⟨(List.range len).map X, ⟨some a, cap, by simp, by simpa using hl, hm, ?_⟩, fun x hx => ?_⟩
    · obtain ⟨c1, c2, _⟩ := hX 0 h0
      have hc0 := c1 0 (F (X 0))[0] (List.getElem?_eq_getElem (by omega))
      have hsp : a.spot = none := by
        have := World.cell?_spot hc0
        simpa [Addr.add] using this
      obtain ⟨g, o, sp⟩ := a
      simp only at hsp
      subst hsp
      refine .inr ⟨g, o, rfl, by simp, by have := World.block_lt_of_cell? w _ hc0; rwa [add_mk] at this, fun i p hp j u hu => ?_⟩
      rw [List.getElem?_map] at hp
      rcases Nat.lt_or_ge i len with hlt | hge
      · rw [List.getElem?_range hlt] at hp
        simp only [Option.map_some, Option.some.injEq] at hp
        subst hp
        have := (hX i hlt).1 j u hu
        rwa [add_mk] at this
      · rw [List.getElem?_eq_none (by simpa using hge)] at hp
        simp at hp
    · obtain ⟨i, hi', rfl⟩ := List.mem_map.1 hx
      exact (hX i (List.mem_range.1 hi')).2.2
end Go.Proofs.Ytjkgmkkhjpcngaa

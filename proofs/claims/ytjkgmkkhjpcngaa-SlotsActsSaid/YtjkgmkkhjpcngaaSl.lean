/-
  'Rd w N v xs': the slice value v reads as the list of cells xs, and lies in no block of N. Plain theorems on memory. No condition.
-/
import Derived.Test.YtjkgmkkhjpcngaaApp
namespace Go.Proofs.Ytjkgmkkhjpcngaa
open Go.RowKit

def Rd (w : World) (N : List Nat) (v : Value) (xs : List Value) : Prop :=
  ∃ (A : Option Addr) (cap : Nat), v = .slice A xs.length cap ∧ xs.length ≤ cap ∧ cap ≤ maxLen ∧
    (xs = [] ∨ ∃ g o, A = some ⟨g, o, none⟩ ∧ g ∉ N ∧ g < w.heap.size ∧ ∀ i x, xs[i]? = some x → w.cell? ⟨g, o + i, none⟩ = some x)

theorem add_mk (g o i : Nat) : (⟨g, o, none⟩ : Addr).add i = ⟨g, o + i, none⟩ := by
  unfold Addr.add
  split <;> simp_all

theorem cell_only {S : List Nat} {w w' : World} (ho : Only S w w') {a : Addr} (hb : a.block < w.heap.size) (hs : a.block ∉ S) : w'.cell? a = w.cell? a :=
  World.cell?_of_block (ho.block a.block hb hs)
theorem only_new_cell {S : List Nat} {w w1 : World} {cs : Array Value} {t : TypeId} (ho : Only S (w.alloc (.cells cs t)) w1) (hs : w.heap.size ∉ S) (i : Nat) : w1.cell? ⟨w.heap.size, i, none⟩ = cs[i]? :=
  ((Blk.new w t cs).only ho hs).cell i

section
variable {w w' : World} {N S : List Nat} {v : Value} {xs : List Value}
theorem Rd.nil (w : World) (N : List Nat) : Rd w N (.slice none 0 0) [] := ⟨none, 0, rfl, Nat.le_refl _, Nat.zero_le _, .inl rfl⟩
theorem Rd.nil' (w : World) (N : List Nat) (A : Option Addr) : Rd w N (.slice A 0 0) [] := ⟨A, 0, rfl, Nat.le_refl _, Nat.zero_le _, .inl rfl⟩
theorem Rd.only (h : Rd w N v xs) (ho : Only S w w') (hs : ∀ x ∈ S, x ∈ N) : Rd w' N v xs := by
  obtain ⟨A, cap, hv, hc, hm, h⟩ := h
  refine ⟨A, cap, hv, hc, hm, ?_⟩
  rcases h with h | ⟨g, o, hA, hg, hl, hcell⟩
  · exact .inl h
  · exact .inr ⟨g, o, hA, hg, Nat.lt_of_lt_of_le hl ho.size, fun i x hx => (cell_only ho hl (fun hh => hg (hs _ hh))).trans (hcell i x hx)⟩
theorem Rd.less {N' : List Nat} (h : Rd w N v xs) (hs : ∀ x ∈ N', x ∈ N) : Rd w N' v xs := by
  obtain ⟨A, cap, hv, hc, hm, h⟩ := h
  refine ⟨A, cap, hv, hc, hm, ?_⟩
  rcases h with h | ⟨g, o, hA, hg, hl, hcell⟩
  · exact .inl h
  · exact .inr ⟨g, o, hA, fun hh => hg (hs _ hh), hl, hcell⟩
theorem Rd.of_own {base e n : Nat} (h : w.ownsRow base e 1 v n xs) (hN : ∀ x ∈ N, x < base) : Rd w N v xs ∧ xs.length = n := by
  obtain ⟨h1, h2⟩ := h
  rw [Nat.mul_one] at h1
  refine ⟨?_, h1⟩
  rcases h2 with ⟨rfl, rfl⟩ | ⟨g, cap, cur, rfl, hg, hh, hnc, hm, hs, hx⟩
  · rw [List.length_eq_zero_iff] at h1
    subst h1
    exact Rd.nil w N
  · refine ⟨_, cap, by rw [h1], by omega, hm, .inr ⟨g, 0, rfl, fun hh => by have := hN g hh; omega, Blk.lt (t := e) (cs := cur) hh, fun i x hxi => ?_⟩⟩
    rw [Nat.zero_add, Blk.cell (t := e) (cs := cur) hh]
    rw [← hx, List.getElem?_take] at hxi
    split at hxi
    · simpa using hxi
    · cases hxi
theorem Rd.at_ {A : Option Addr} {n cap : Nat} (h : Rd w N (.slice A n cap) xs) : n = xs.length ∧ n ≤ cap ∧ cap ≤ maxLen ∧
    (∀ k x, xs[k]? = some x → ∃ g o, A = some ⟨g, o, none⟩ ∧ g ∉ N ∧ g < w.heap.size ∧ w.cell? ⟨g, o + k, none⟩ = some x) := by
  obtain ⟨A', cap', hv, hc, hm, h⟩ := h
  injection hv with h1 h2 h3
  subst h1 h2 h3
  refine ⟨rfl, hc, hm, fun k x hx => ?_⟩
  rcases h with h | ⟨g, o, hA, hg, hl, hcell⟩
  · subst h; simp at hx
  · exact ⟨g, o, hA, hg, hl, hcell k x hx⟩
theorem Rd.form (h : Rd w N v xs) : ∃ A cap, v = .slice A xs.length cap ∧ xs.length ≤ cap ∧ cap ≤ maxLen := by
  obtain ⟨A, cap, hv, hc, hm, _⟩ := h
  exact ⟨A, cap, hv, hc, hm⟩
theorem Rd.reads {A : Option Addr} {n cap : Nat} (h : Rd w N (.slice A n cap) xs) : Reads w w.heap.size 1 A n xs := by
  obtain ⟨h1, _, _, h2⟩ := h.at_
  refine ⟨by omega, fun hn => ?_⟩
  obtain ⟨g, o, hA, _, hl, _⟩ := h2 0 xs[0] (List.getElem?_eq_getElem (by omega))
  refine ⟨⟨g, o, none⟩, hA, hl, fun j u hu => ?_⟩
  obtain ⟨g', o', hA', _, _, hc⟩ := h2 j u hu
  rw [hA] at hA'
  injection hA' with hA'
  injection hA' with e1 e2
  subst e1 e2
  rw [add_mk]
  exact hc
/-- 's[1:]' -/
theorem Rd.tail {A : Option Addr} {n cap : Nat} {x : Value} (h : Rd w N (.slice A n cap) (x :: xs)) :
    ∃ g o, A = some ⟨g, o, none⟩ ∧ n = xs.length + 1 ∧ n ≤ cap ∧ w.cell? ⟨g, o, none⟩ = some x ∧ Rd w N (.slice (if cap = 1 then some ⟨g, o, none⟩ else some ⟨g, o + 1, none⟩) (n - 1) (cap - 1)) xs := by
  obtain ⟨h1, h2, h3, h4⟩ := h.at_
  obtain ⟨g, o, rfl, hg, hl, hc⟩ := h4 0 x rfl
  refine ⟨g, o, rfl, by simpa using h1, h2, hc, ?_⟩
  simp at h1
  refine ⟨(if cap = 1 then some ⟨g, o, none⟩ else some ⟨g, o + 1, none⟩), cap - 1, by rw [h1]; rfl, by omega, by omega, ?_⟩
  by_cases hx : xs = []
  · exact .inl hx
  · have : 0 < xs.length := List.length_pos_iff.2 hx
    refine .inr ⟨g, o + 1, by rw [if_neg (by omega)], hg, hl, fun i y hy => ?_⟩
    obtain ⟨g', o', hA', _, _, hc'⟩ := h4 (i + 1) y (by simpa using hy)
    injection hA' with hA'
    injection hA' with e1 e2
    subst e1 e2
    rw [Nat.add_assoc, Nat.add_comm 1 i]
    exact hc'
/-- 's[:m]' -/
theorem Rd.take {A : Option Addr} {n cap : Nat} (h : Rd w N (.slice A n cap) xs) (m : Nat) (hm : m ≤ n) : Rd w N (.slice A m cap) (xs.take m) := by
  obtain ⟨h1, h2, h3, h4⟩ := h.at_
  refine ⟨A, cap, by rw [List.length_take, Nat.min_eq_left (by omega)], by rw [List.length_take]; omega, h3, ?_⟩
  by_cases hx : xs = []
  · subst hx; exact .inl (by simp)
  · have : 0 < xs.length := List.length_pos_iff.2 hx
    obtain ⟨g, o, rfl, hg, hl, hc⟩ := h4 0 xs[0] (List.getElem?_eq_getElem this)
    refine .inr ⟨g, o, rfl, hg, hl, fun i y hy => ?_⟩
    rw [List.getElem?_take] at hy
    split at hy
    · obtain ⟨g', o', hA', _, _, hc'⟩ := h4 i y hy
      injection hA' with hA'
      injection hA' with e1 e2
      subst e1 e2
      exact hc'
    · cases hy
end

theorem own_block_ge {w : World} {base e size n : Nat} {v : Value} {xs : List Value} (h : w.ownsRow base e size v n xs) {j : Nat} (hj : v.ownBlock = some j) : base ≤ j := by
  rcases h.2 with ⟨h1, _⟩ | ⟨g3, cap3, cur, h1, hg3, _⟩
  · subst h1; cases hj
  · subst h1; injection hj with hj; subst hj; exact hg3

theorem own_form {w : World} {base e size n : Nat} {v : Value} {xs : List Value} (h : w.ownsRow base e size v n xs) : ∃ A c, v = .slice A n c ∧ n ≤ c ∧ c ≤ maxLen := by
  rcases h.2 with ⟨h1, h2⟩ | ⟨g3, cap3, cur, h1, hg3, _, h4, h5, _⟩
  · subst h1 h2; exact ⟨none, 0, rfl, Nat.le_refl _, Nat.zero_le _⟩
  · exact ⟨_, cap3, h1, h4, h5⟩
theorem own_empty (w : World) (e base : Nat) (hB : base ≤ w.heap.size) : (w.alloc (.cells #[] e)).ownsRow base e 1 (.slice (some ⟨w.heap.size, 0, none⟩) 0 0) 0 [] :=
  ⟨rfl, .inr ⟨w.heap.size, 0, #[], rfl, hB, heap_alloc_new w _, Nat.le_refl _, Nat.zero_le _, rfl, rfl⟩⟩
theorem reads_one (w : World) (e : TypeId) (x : Value) (B : Nat) (hB : w.heap.size < B) : Reads (w.alloc (.cells #[x] e)) B 1 (some ⟨w.heap.size, 0, none⟩) 1 [x] :=
  ⟨rfl, fun _ => ⟨_, rfl, hB, cell_one_new _ _ _⟩⟩

theorem own_base {w : World} {base base' e size n : Nat} {v : Value} {xs : List Value} (h : w.ownsRow base e size v n xs) (hb : base' ≤ base) : w.ownsRow base' e size v n xs := by
  obtain ⟨h1, h2⟩ := h
  refine ⟨h1, ?_⟩
  rcases h2 with h2 | ⟨g, cap, cur, rfl, hg, h3⟩
  · exact .inl h2
  · exact .inr ⟨g, cap, cur, rfl, Nat.le_trans hb hg, h3⟩
theorem own_only {S : List Nat} {w w' : World} {base e size n : Nat} {v : Value} {xs : List Value} (h : w.ownsRow base e size v n xs) (ho : Only S w w') (hS : ∀ x ∈ S, x < base) : w'.ownsRow base e size v n xs := by
  obtain ⟨h1, h2⟩ := h
  refine ⟨h1, ?_⟩
  rcases h2 with h2 | ⟨g, cap, cur, rfl, hg, hh, h3⟩
  · exact .inl h2
  · exact .inr ⟨g, cap, cur, rfl, hg, (ho.block g (Blk.lt (t := e) (cs := cur) hh) (fun hx => by have := hS g hx; omega)).trans hh, h3⟩

theorem rd_new (w : World) (e : TypeId) (N : List Nat) (xs : List Value) (hN : ∀ x ∈ N, x < w.heap.size) (hm : xs.length ≤ maxLen) : Rd (w.alloc (.cells xs.toArray e)) N (.slice (some ⟨w.heap.size, 0, none⟩) xs.length xs.length) xs :=
  ⟨_, _, rfl, Nat.le_refl _, hm, .inr ⟨w.heap.size, 0, rfl, fun h => by have := hN _ h; omega, by simp, fun i x hx => by
    rw [Nat.zero_add, (Blk.new w e xs.toArray).cell]; simpa using hx⟩⟩

def ints (k : IntKind) (xs : List Int) : List Value := xs.map (Value.int k)
theorem ints_get {k : IntKind} {xs : List Int} {i : Nat} {x : Int} (h : xs[i]? = some x) : (ints k xs)[i]? = some (.int k x) := by simp [ints, h]
theorem ints_length (k : IntKind) (xs : List Int) : (ints k xs).length = xs.length := by simp [ints]
theorem Rd.formi {w : World} {N : List Nat} {v : Value} {k : IntKind} {xs : List Int} (h : Rd w N v (ints k xs)) : ∃ A cap, v = .slice A xs.length cap ∧ xs.length ≤ cap ∧ cap ≤ maxLen := by
  obtain ⟨A, cap, hv, hc, hm⟩ := h.form
  rw [ints_length] at hv hc
  exact ⟨A, cap, hv, hc, hm⟩
theorem ints_one (k : IntKind) (xs : List Int) : ∀ u ∈ ints k xs, u.oneCell' = true := by
  intro u hu
  obtain ⟨x, _, rfl⟩ := List.mem_map.1 hu
  rfl
theorem ints_snoc (k : IntKind) (xs : List Int) (x : Int) : ints k xs ++ [.int k x] = ints k (xs ++ [x]) := by simp [ints]
theorem Rd.firsti {w : World} {N : List Nat} {v : Value} {k : IntKind} {y : Int} {L : List Int} (h : Rd w N v (ints k (y :: L))) :
    ∃ g o cap, v = .slice (some ⟨g, o, none⟩) (L.length + 1) cap ∧ g ∉ N ∧ g < w.heap.size ∧ L.length + 1 ≤ cap ∧ cap ≤ maxLen ∧ w.cell? ⟨g, o, none⟩ = some (.int k y) ∧
      Rd w N (.slice (if cap = 1 then some ⟨g, o, none⟩ else some ⟨g, o + 1, none⟩) L.length (cap - 1)) (ints k L) := by
  obtain ⟨A, cap, rfl, hc, hm⟩ := h.formi
  have h' : Rd w N (.slice A (y :: L).length cap) (.int k y :: ints k L) := h
  obtain ⟨g, o, rfl, hn, hle, hcell, hr⟩ := h'.tail
  obtain ⟨g', o', hA, hg, hl, _⟩ := h'.at_.2.2.2 0 _ rfl
  injection hA with hA
  injection hA with e1 e2
  subst e1 e2
  exact ⟨g, o, cap, rfl, hg, hl, hc, hm, hcell, hr⟩
theorem Rd.lasti {w : World} {N : List Nat} {v : Value} {k : IntKind} {y : Int} {L : List Int} (h : Rd w N v (ints k (L ++ [y]))) :
    ∃ g o cap, v = .slice (some ⟨g, o, none⟩) (L.length + 1) cap ∧ g ∉ N ∧ g < w.heap.size ∧ L.length + 1 ≤ cap ∧ cap ≤ maxLen ∧ w.cell? ⟨g, o + L.length, none⟩ = some (.int k y) ∧
      Rd w N (.slice (some ⟨g, o, none⟩) L.length cap) (ints k L) := by
  obtain ⟨A, cap, rfl, hc, hm⟩ := h.formi
  rw [List.length_append, List.length_singleton] at h hc ⊢
  obtain ⟨g, o, rfl, hg, hl, hcell⟩ := h.at_.2.2.2 L.length (.int k y) (ints_get (by simp))
  have ht := h.take L.length (by omega)
  have e : (ints k (L ++ [y])).take L.length = ints k L := by simp [ints]
  rw [e] at ht
  exact ⟨g, o, cap, rfl, hg, hl, hc, hm, hcell, ht⟩

def nats (L : List Nat) : List Int := L.map fun (n : Nat) => (n : Int)
theorem nats_get {L : List Nat} {k x : Nat} (h : L[k]? = some x) : (nats L)[k]? = some (x : Int) := by simp [nats, h]
theorem nats_length (L : List Nat) : (nats L).length = L.length := by simp [nats]
theorem nats_snoc (L : List Nat) (x : Nat) : nats L ++ [(x : Int)] = nats (L ++ [x]) := by simp [nats]

theorem snoc_ind {α : Type} {P : List α → Prop} (h0 : P []) (h1 : ∀ L x, P L → P (L ++ [x])) (L : List α) : P L := by
  have key : ∀ R : List α, P R.reverse := by
    intro R
    induction R with
    | nil => exact h0
    | cons x R ih => rw [List.reverse_cons]; exact h1 _ _ ih
  have h := key L.reverse
  rwa [List.reverse_reverse] at h


/-- Bytes as integers. -/
def byts (l : List UInt8) : List Int := l.map fun b => (b.toNat : Int)
theorem byts_length (l : List UInt8) : (byts l).length = l.length := by simp [byts]
theorem byts_get {l : List UInt8} {i : Nat} {b : UInt8} (h : l[i]? = some b) : (byts l)[i]? = some (b.toNat : Int) := by simp [byts, h]
theorem byts_append (l m : List UInt8) : byts (l ++ m) = byts l ++ byts m := by simp [byts]
theorem byts_inj {l m : List UInt8} : byts l = byts m ↔ l = m := by
  unfold byts
  constructor
  · intro h
    refine (List.map_inj_right (f := fun b : UInt8 => (b.toNat : Int)) (fun a b hab => ?_)).1 h
    have : a.toNat = b.toNat := by omega
    exact UInt8.toNat_inj.1 this
  · rintro rfl; rfl
theorem byts_of (zs : List Int) (h : ∀ n ∈ zs, 0 ≤ n ∧ n ≤ 255) : ∃ l : List UInt8, zs = byts l := by
  refine ⟨zs.map fun n => UInt8.ofNat n.toNat, ?_⟩
  unfold byts
  rw [List.map_map]
  conv => lhs; rw [← List.map_id zs]
  apply List.map_congr_left
  intro z hz
  have := h z hz
  simp only [id, Function.comp, UInt8.toNat_ofNat']
  omega
theorem Rd.formb {w : World} {N : List Nat} {v : Value} {k : IntKind} {l : List UInt8} (h : Rd w N v (ints k (byts l))) : ∃ A cap, v = .slice A l.length cap ∧ l.length ≤ cap ∧ cap ≤ maxLen := by
  obtain ⟨A, cap, hv, hc, hm⟩ := h.formi
  rw [byts_length] at hv hc
  exact ⟨A, cap, hv, hc, hm⟩
/-- 'string(b)' -/
theorem rd_string {P : Program} {w : World} {N : List Nat} {A : Option Addr} {n cap : Nat} {l : List UInt8} (h : Rd w N (.slice A n cap) (ints .u8 (byts l))) (src dst e : TypeId)
    (hs : P.underlying src = some (.slice e)) (he : P.underlying e = some (.int .u8)) (hd : P.underlying dst = some .string) : (convert src dst (.slice A n cap)).run P w = .ok (.string ⟨l.toArray⟩) w := by
  obtain ⟨h1, h2, h3, h4⟩ := h.at_
  rw [ints_length, byts_length] at h1
  subst h1
  cases A with
  | none =>
    have hl : l = [] := by
      cases l with
      | nil => rfl
      | cons y l =>
        obtain ⟨g, o, hA, _⟩ := h4 0 (.int .u8 (y.toNat : Int)) rfl
        cases hA
    subst hl
    exact Lib.run_convert_nil_bytes w src dst e cap hs he hd
  | some a =>
    refine run_convert_bytes_back w src dst e a cap l hs he hd fun j hj => ?_
    obtain ⟨g, o, hA, _, _, hc⟩ := h4 j (.int .u8 (l[j].toNat : Int)) (ints_get (byts_get (List.getElem?_eq_getElem hj)))
    injection hA with hA
    subst hA
    rw [add_mk]
    exact hc
end Go.Proofs.Ytjkgmkkhjpcngaa

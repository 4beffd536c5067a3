/-
  Walks and plain words (texts Tp1, Tp2, Clone, Trr, Ret). No condition beyond those that each theorem states.
-/
import Derived.Test.YtokaobilphfdoaaChecked
import Derived.Test.YtokaobilphfdoaaQ01
namespace Go.Proofs.Ytokaobilphfdoaa
section
open Go.RowKit Go.Deep

/-- The bytes of a path (the last bit ahead). -/
def unP (n : Nat) : List Bool → List UInt8
  | [] => List.replicate n 0
  | b :: π => if b then (unP n π).set (π.length / 8) (UInt8.ofNat (((unP n π).getD (π.length / 8) 0).toNat + 2 ^ (7 - π.length % 8))) else unP n π
theorem unP_len (n : Nat) : ∀ π, (unP n π).length = n
  | [] => by simp [unP]
  | b :: π => by
    cases b
    · exact unP_len n π
    · simp [unP, unP_len n π]
theorem path_len (l : List UInt8) : ∀ i, (pathR l i).length = i
  | 0 => rfl
  | i + 1 => by simp [pathR, path_len l i]
theorem set_same (l : List UInt8) (k : Nat) : l.set k (UInt8.ofNat ((l.getD k 0).toNat + 0)) = l := by
  apply List.ext_getElem
  · simp
  · intro i h1 h2
    rw [List.getElem_set]
    split
    · rename_i e
      subst e
      rw [Nat.add_zero, UInt8.ofNat_toNat, List.getD, List.getElem?_eq_getElem h2]
      rfl
    · rfl
theorem plain_unP {l : List UInt8} : ∀ i, i ≤ 8 * l.length → plainV l i = unP l.length (pathR l i)
  | 0, _ => plain_zero l
  | i + 1, hi => by
    rw [plain_step (by omega), plain_unP i (by omega)]
    simp only [pathR, unP, path_len]
    have hb := bit_lt l i
    by_cases h1 : bitN l i = 1
    · rw [h1, Nat.one_mul]; rfl
    · have h0 : bitN l i = 0 := by omega
      rw [h0, Nat.zero_mul, set_same]; rfl
def room (L i : Nat) : Nat := 2 ^ (8 - min 8 (L - 8 * i))
theorem room_pos (L i : Nat) : 0 < room L i := Nat.pow_pos (by decide)
theorem room_at {L i : Nat} (h : L / 8 = i) : room L i = 2 * 2 ^ (7 - L % 8) ∧ room (L + 1) i = 2 ^ (7 - L % 8) := by
  unfold room
  constructor
  · rw [show 8 - min 8 (L - 8 * i) = (7 - L % 8) + 1 by omega, Nat.pow_succ]; omega
  · rw [show 8 - min 8 (L + 1 - 8 * i) = 7 - L % 8 by omega]
theorem room_off {L i : Nat} (h : ¬ L / 8 = i) : room (L + 1) i = room L i := by
  unfold room
  rw [show min 8 (L + 1 - 8 * i) = min 8 (L - 8 * i) by omega]
theorem getD_set_same {l : List UInt8} {k : Nat} (h : k < l.length) (x : UInt8) : (l.set k x).getD k 0 = x := by
  rw [List.getD, List.getElem?_set_self h]; rfl
theorem getD_set_ne {l : List UInt8} {k i : Nat} (h : ¬ k = i) (x : UInt8) : (l.set k x).getD i 0 = l.getD i 0 := by
  rw [List.getD, List.getD, List.getElem?_set_ne h]
theorem unP_room (n : Nat) : ∀ (π : List Bool) (i : Nat), i < n → ((unP n π).getD i 0).toNat + room π.length i ≤ 256
  | [], i, hi => by
    have h1 : (List.replicate n (0 : UInt8)).getD i 0 = 0 := by rw [List.getD, List.getElem?_replicate]; split <;> rfl
    rw [show unP n [] = List.replicate n 0 from rfl, h1]
    unfold room
    rw [show 8 - min 8 (([] : List Bool).length - 8 * i) = 8 by rw [List.length_nil]; omega]
    decide
  | b :: π, i, hi => by
    have ih := unP_room n π i hi
    rw [List.length_cons]
    by_cases hk : π.length / 8 = i
    · obtain ⟨e1, e2⟩ := room_at hk
      have hp : 0 < 2 ^ (7 - π.length % 8) := Nat.pow_pos (by decide)
      rw [e1] at ih
      rw [e2]
      cases b
      · show ((unP n π).getD i 0).toNat + _ ≤ _
        omega
      · simp only [unP, if_true, hk]
        rw [getD_set_same (by rw [unP_len]; exact hi), UInt8.toNat_ofNat', Nat.mod_eq_of_lt (by omega)]
        omega
    · rw [room_off hk]
      cases b
      · exact ih
      · simp only [unP, if_true]
        rw [getD_set_ne hk]
        exact ih
theorem unP_set {n : Nat} {π : List Bool} {i : Nat} (hk : π.length / 8 = i) (hi : i < n) : ((unP n (true :: π)).getD i 0).toNat = ((unP n π).getD i 0).toNat + 2 ^ (7 - π.length % 8) := by
  have ih := unP_room n π i hi
  obtain ⟨e1, _⟩ := room_at hk
  have hp : 0 < 2 ^ (7 - π.length % 8) := Nat.pow_pos (by decide)
  rw [e1] at ih
  simp only [unP, if_true, hk]
  rw [getD_set_same (by rw [unP_len]; exact hi), UInt8.toNat_ofNat', Nat.mod_eq_of_lt (by omega)]
theorem unP_off {n : Nat} {b : Bool} {π : List Bool} {i : Nat} (hk : ¬ π.length / 8 = i) : (unP n (b :: π)).getD i 0 = (unP n π).getD i 0 := by
  cases b
  · rfl
  · simp only [unP, if_true]
    rw [getD_set_ne hk]
theorem unP_grow (n : Nat) (τ : List Bool) : ∀ (σ : List Bool) (i : Nat), i < n →
    ((unP n τ).getD i 0).toNat ≤ ((unP n (σ ++ τ)).getD i 0).toNat ∧ ((unP n (σ ++ τ)).getD i 0).toNat + room (σ ++ τ).length i ≤ ((unP n τ).getD i 0).toNat + room τ.length i
  | [], i, _ => ⟨Nat.le_refl _, Nat.le_refl _⟩
  | b :: σ, i, hi => by
    obtain ⟨h1, h2⟩ := unP_grow n τ σ i hi
    rw [List.cons_append, List.length_cons]
    by_cases hk : (σ ++ τ).length / 8 = i
    · obtain ⟨e1, e2⟩ := room_at hk
      rw [e1] at h2
      rw [e2]
      cases b
      · show _ ≤ ((unP n (σ ++ τ)).getD i 0).toNat ∧ ((unP n (σ ++ τ)).getD i 0).toNat + _ ≤ _
        omega
      · rw [unP_set hk hi]
        omega
    · rw [room_off hk, unP_off hk]
      exact ⟨h1, h2⟩
/-- A place stands ahead of what is behind it. -/
theorem bef_node {n : Nat} {π σ : List Bool} (hs : σ ≠ []) : befV (unP n π, π.length) (unP n (σ ++ π), (σ ++ π).length) = true := by
  have hl : (unP n π).length = (unP n (σ ++ π)).length := by rw [unP_len, unP_len]
  have hlen : π.length < (σ ++ π).length := by
    rw [List.length_append]
    have := List.length_pos_iff.2 hs
    omega
  unfold befV
  simp only
  rw [if_pos hl]
  rcases less_le hl (fun i hi => (unP_grow n π σ i (by rwa [unP_len] at hi)).1) with e | e
  · rw [if_pos e]; exact decide_eq_true hlen
  · rw [if_neg (fun h => by rw [h, less_irrefl] at e; cases e)]; exact e
/-- What begins with a 0 stands ahead of what begins with a 1. -/
theorem bef_kids {n : Nat} {π σ τ : List Bool} (hn : π.length < 8 * n) : befV (unP n (σ ++ false :: π), (σ ++ false :: π).length) (unP n (τ ++ true :: π), (τ ++ true :: π).length) = true := by
  have hl : (unP n (σ ++ false :: π)).length = (unP n (τ ++ true :: π)).length := by rw [unP_len, unP_len]
  have hk : π.length / 8 < n := by omega
  have hless : Op.bytesLess (unP n (σ ++ false :: π)) (unP n (τ ++ true :: π)) = true := by
    refine less_at (π.length / 8) hl (by rw [unP_len]; exact hk) (fun i hi => ?_) ?_
    · have hin : i < n := by omega
      obtain ⟨a1, a2⟩ := unP_grow n (false :: π) σ i hin
      obtain ⟨b1, b2⟩ := unP_grow n (true :: π) τ i hin
      rw [unP_off (by omega)] at a1 a2 b1 b2
      have hr : ∀ {L : Nat}, 8 * i + 8 ≤ L → room L i = 1 := fun {L} h => by unfold room; rw [show min 8 (L - 8 * i) = 8 by omega]
      rw [hr (by simp only [List.length_append, List.length_cons]; omega), hr (by simp only [List.length_cons]; omega)] at a2 b2
      exact UInt8.toNat_inj.1 (by omega)
    · obtain ⟨a1, a2⟩ := unP_grow n (false :: π) σ (π.length / 8) hk
      obtain ⟨b1, _⟩ := unP_grow n (true :: π) τ (π.length / 8) hk
      rw [unP_set rfl hk] at b1
      rw [List.length_cons, (room_at rfl).2] at a2
      have hp := room_pos (σ ++ false :: π).length (π.length / 8)
      have e : (unP n (false :: π)).getD (π.length / 8) 0 = (unP n π).getD (π.length / 8) 0 := rfl
      rw [e] at a2
      omega
  unfold befV
  simp only
  rw [if_pos hl, if_neg (fun h => by rw [h, less_irrefl] at hless; cases hless)]
  exact hless

def nodeV (th : List Bool → Bool) (ow : List Bool → Int) (n : Nat) (π : List Bool) : List Rw := if th π then [(unP n π, π.length, ow π)] else []
/-- The rows at a place and behind it, in order. -/
def dfsL (th : List Bool → Bool) (ow : List Bool → Int) (n : Nat) : Nat → List Bool → List Rw
  | 0, π => nodeV th ow n π
  | k + 1, π => nodeV th ow n π ++ (dfsL th ow n k (false :: π) ++ dfsL th ow n k (true :: π))
section
variable {th : List Bool → Bool} {ow : List Bool → Int} {n : Nat}
theorem mem_node {π : List Bool} {r : Rw} : r ∈ nodeV th ow n π ↔ th π = true ∧ r = (unP n π, π.length, ow π) := by
  unfold nodeV
  split
  · rename_i h; simp [h]
  · rename_i h; simp [h]
theorem mem_dfs : ∀ {k : Nat} {π : List Bool} {r : Rw}, r ∈ dfsL th ow n k π ↔ ∃ σ : List Bool, σ.length ≤ k ∧ th (σ ++ π) = true ∧ r = (unP n (σ ++ π), (σ ++ π).length, ow (σ ++ π))
  | 0, π, r => by
    rw [dfsL, mem_node]
    constructor
    · rintro ⟨h1, h2⟩; exact ⟨[], Nat.le_refl _, h1, h2⟩
    · rintro ⟨σ, h0, h1, h2⟩
      obtain rfl : σ = [] := List.length_eq_zero_iff.1 (by omega)
      exact ⟨h1, h2⟩
  | k + 1, π, r => by
    rw [dfsL, List.mem_append, List.mem_append, mem_node, mem_dfs, mem_dfs]
    constructor
    · rintro (⟨h1, h2⟩ | ⟨σ, h0, h1, h2⟩ | ⟨σ, h0, h1, h2⟩)
      · exact ⟨[], Nat.zero_le _, h1, h2⟩
      · exact ⟨σ ++ [false], by simp; omega, by simpa using h1, by simpa using h2⟩
      · exact ⟨σ ++ [true], by simp; omega, by simpa using h1, by simpa using h2⟩
    · rintro ⟨σ, h0, h1, h2⟩
      rcases List.eq_nil_or_concat σ with rfl | ⟨ρ, b, rfl⟩
      · exact .inl ⟨h1, h2⟩
      · have hl : ρ.length ≤ k := by simpa using h0
        rw [List.concat_eq_append, List.append_assoc] at h1 h2
        cases b
        · exact .inr (.inl ⟨ρ, hl, h1, h2⟩)
        · exact .inr (.inr ⟨ρ, hl, h1, h2⟩)
theorem dfs_srt : ∀ {k : Nat} {π : List Bool}, π.length + k ≤ 8 * n → Srt (dfsL th ow n k π)
  | 0, π, _ => by
    unfold dfsL nodeV
    split
    · exact List.pairwise_singleton _ _
    · exact List.Pairwise.nil
  | k + 1, π, h => by
    rw [dfsL]
    refine List.pairwise_append.2 ⟨?_, List.pairwise_append.2 ⟨dfs_srt (by rw [List.length_cons]; omega), dfs_srt (by rw [List.length_cons]; omega), fun a ha b hb => ?_⟩, fun a ha b hb => ?_⟩
    · unfold nodeV
      split
      · exact List.pairwise_singleton _ _
      · exact List.Pairwise.nil
    · obtain ⟨σ, _, _, rfl⟩ := mem_dfs.1 ha
      obtain ⟨τ, _, _, rfl⟩ := mem_dfs.1 hb
      exact bef_kids (by omega)
    · obtain ⟨_, rfl⟩ := mem_node.1 ha
      rcases List.mem_append.1 hb with hb | hb
      · obtain ⟨τ, _, _, rfl⟩ := mem_dfs.1 hb
        rw [show τ ++ false :: π = (τ ++ [false]) ++ π by simp]
        exact bef_node (by simp)
      · obtain ⟨τ, _, _, rfl⟩ := mem_dfs.1 hb
        rw [show τ ++ true :: π = (τ ++ [true]) ++ π by simp]
        exact bef_node (by simp)
end

def sz (l : List UInt8) : Bool := !(decide (l.length = 4))
def rowsV (th : Bool → List Bool → Bool) (ow : Bool → List Bool → Int) : List Rw := dfsL (th false) (ow false) 4 32 [] ++ dfsL (th true) (ow true) 16 128 []
/-- The document's rows are a trie's. -/
structure MInv (m : List Rw) (th : Bool → List Bool → Bool) (ow : Bool → List Bool → Int) : Prop where
  srt : Srt m
  out : ∀ r ∈ m, rightV r.1 r.2.1 = true ∧ plainV r.1 r.2.1 = r.1 ∧ th (sz r.1) (pathR r.1 r.2.1) = true ∧ ow (sz r.1) (pathR r.1 r.2.1) = r.2.2
  back : ∀ s π, th s π = true → ∃ r ∈ m, sz r.1 = s ∧ pathR r.1 r.2.1 = π
theorem right_len {l : List UInt8} {b : Nat} (h : rightV l b = true) : b ≤ 8 * l.length ∧ ((l.length = 4 ∧ sz l = false) ∨ (l.length = 16 ∧ sz l = true)) := by
  unfold rightV at h
  simp only [Bool.and_eq_true, Bool.or_eq_true, decide_eq_true_eq] at h
  refine ⟨by omega, ?_⟩
  unfold sz
  rcases h.1.1 with e | e
  · exact .inl ⟨e, by rw [e]; rfl⟩
  · exact .inr ⟨e, by rw [e]; rfl⟩
theorem row_un {l : List UInt8} {b : Nat} (hr : rightV l b = true) (hp : plainV l b = l) : l = unP l.length (pathR l b) := by rw [← plain_unP b (right_len hr).1, hp]
theorem rows_eq {m : List Rw} {th : Bool → List Bool → Bool} {ow : Bool → List Bool → Int} (h : MInv m th ow) : rowsV th ow = m := by
  refine srt_ext ?_ h.srt fun r => ?_
  · unfold rowsV
    refine List.pairwise_append.2 ⟨dfs_srt (by simp), dfs_srt (by simp), fun a ha b hb => ?_⟩
    obtain ⟨σ, _, _, rfl⟩ := mem_dfs.1 ha
    obtain ⟨τ, _, _, rfl⟩ := mem_dfs.1 hb
    unfold befV pf
    simp only [unP_len]
    rfl
  · unfold rowsV
    rw [List.mem_append, mem_dfs, mem_dfs]
    simp only [List.append_nil]
    constructor
    · rintro (⟨σ, _, h1, rfl⟩ | ⟨σ, _, h1, rfl⟩)
      · obtain ⟨q, hq, hs, rfl⟩ := h.back _ _ h1
        obtain ⟨h2, h3, h4, h5⟩ := h.out q hq
        rcases (right_len h2).2 with ⟨e, f⟩ | ⟨_, f⟩
        · have := row_un h2 h3
          rw [e] at this
          rw [← this, path_len, ← hs, h5]
          exact hq
        · rw [hs] at f; cases f
      · obtain ⟨q, hq, hs, rfl⟩ := h.back _ _ h1
        obtain ⟨h2, h3, h4, h5⟩ := h.out q hq
        rcases (right_len h2).2 with ⟨_, f⟩ | ⟨e, f⟩
        · rw [hs] at f; cases f
        · have := row_un h2 h3
          rw [e] at this
          rw [← this, path_len, ← hs, h5]
          exact hq
    · intro hq
      obtain ⟨h2, h3, h4, h5⟩ := h.out r hq
      have hu := row_un h2 h3
      obtain ⟨hb, hs⟩ := right_len h2
      obtain ⟨l, b, x⟩ := r
      simp only at *
      rcases hs with ⟨e, f⟩ | ⟨e, f⟩
      · rw [f] at h4 h5
        refine .inl ⟨pathR l b, by rw [path_len]; omega, h4, ?_⟩
        rw [e] at hu
        rw [← hu, path_len, h5]
      · rw [f] at h4 h5
        refine .inr ⟨pathR l b, by rw [path_len]; omega, h4, ?_⟩
        rw [e] at hu
        rw [← hu, path_len, h5]
end
section
open Go.RowKit Go.Deep

abbrev ThF := Bool → List Bool → Bool
abbrev OwF := Bool → List Bool → Int
theorem path_iff {l m : List UInt8} : ∀ {i : Nat}, pathR l i = pathR m i ↔ ∀ j, j < i → bitN l j = bitN m j
  | 0 => by simp [pathR]
  | i + 1 => by
    have h1 := bit_lt l i
    have h2 := bit_lt m i
    simp only [pathR, List.cons.injEq, path_iff (l := l) (m := m) (i := i)]
    constructor
    · rintro ⟨h3, h4⟩ j hj
      by_cases e : j = i
      · subst e
        have : (bitN l j = 1) ↔ (bitN m j = 1) := by
          rw [← beq_iff_eq (α := Nat), ← beq_iff_eq (α := Nat), h3]
        omega
      · exact h4 j (by omega)
    · intro h
      exact ⟨by rw [h i (by omega)], fun j hj => h j (by omega)⟩
theorem path_plain {l : List UInt8} {b : Nat} (hb : b ≤ 8 * l.length) : pathR (plainV l b) b = pathR l b :=
  path_iff.2 ((same_bits (l := plainV l b) (m := l) (b := b) (by rw [plain_length]; exact hb)).1 (plain_same.2 (fun _ _ => rfl)))
theorem plain_plain {l : List UInt8} {b : Nat} (hb : b ≤ 8 * l.length) : plainV (plainV l b) b = plainV l b := by
  rw [plain_unP b (by rw [plain_length]; exact hb), plain_length, path_plain hb, ← plain_unP b hb]
theorem sz_plain (l : List UInt8) (b : Nat) : sz (plainV l b) = sz l := by unfold sz; rw [plain_length]
theorem len_of_sz {l m : List UInt8} {b c : Nat} (h1 : rightV l b = true) (h2 : rightV m c = true) (h : sz l = sz m) : l.length = m.length := by
  rcases (right_len h1).2 with ⟨e, f⟩ | ⟨e, f⟩ <;> rcases (right_len h2).2 with ⟨e', f'⟩ | ⟨e', f'⟩
  · omega
  · rw [f, f'] at h; cases h
  · rw [f, f'] at h; cases h
  · omega
/-- A row's prefix is known by its path. -/
theorem path_inj {l m : List UInt8} {b c : Nat} (h1 : rightV l b = true) (hp : plainV l b = l) (h2 : rightV m c = true) (hs : sz l = sz m) (he : pathR l b = pathR m c) : (l, b) = (plainV m c, c) := by
  have hlen := len_of_sz h1 h2 hs
  have hb : b = c := by have := congrArg List.length he; rwa [path_len, path_len] at this
  subst hb
  rw [plain_unP b (right_len h2).1, ← hlen, ← he, ← row_un h1 hp]

section
variable {m : List Rw} {th : ThF} {ow : OwF}
theorem minv_nil : MInv [] (fun _ _ => false) (fun _ _ => 0) := ⟨List.Pairwise.nil, (fun r h => by cases h), fun s π h => by cases h⟩
theorem MInv.was (h : MInv m th ow) {l : List UInt8} {b : Nat} (hr : rightV l b = true) : wasV m (plainV l b, b) = th (sz l) (pathR l b) := by
  rw [Bool.eq_iff_iff]
  unfold wasV
  rw [List.any_eq_true]
  constructor
  · rintro ⟨r, hm, he⟩
    obtain ⟨h1, h2, h3, _⟩ := h.out r hm
    have he := of_decide_eq_true he
    unfold pf at he
    injection he with e1 e2
    rw [e1, e2, sz_plain, path_plain (right_len hr).1] at h3
    exact h3
  · intro ht
    obtain ⟨r, hm, hs, hp⟩ := h.back _ _ ht
    obtain ⟨h1, h2, _, _⟩ := h.out r hm
    exact ⟨r, hm, decide_eq_true (path_inj h1 h2 hr hs hp)⟩
theorem MInv.ne_path (h : MInv m th ow) {l : List UInt8} {b : Nat} (hr : rightV l b = true) {r : Rw} (hm : r ∈ m) (hne : pf r ≠ (plainV l b, b)) : ¬ (sz r.1 = sz l ∧ pathR r.1 r.2.1 = pathR l b) := by
  rintro ⟨hs, hp⟩
  obtain ⟨h1, h2, _, _⟩ := h.out r hm
  exact hne (path_inj h1 h2 hr hs hp)
theorem MInv.put (h : MInv m th ow) {l : List UInt8} {b : Nat} (hr : rightV l b = true) (x : Int) :
    MInv (putV m (plainV l b, b) x) (upd2 th (sz l) (pathR l b) true) (upd2 ow (sz l) (pathR l b) x) := by
  have hb := (right_len hr).1
  refine ⟨put_srt h.srt _ _, fun r hm => ?_, fun s π ht => ?_⟩
  · rcases (mem_put h.srt).1 hm with rfl | ⟨hm, hne⟩
    · simp only
      rw [sz_plain, path_plain hb, upd2_same, upd2_same, right_plain, plain_plain hb]
      exact ⟨hr, rfl, rfl, rfl⟩
    · have hn := h.ne_path hr hm hne
      rw [upd2_ne _ _ hn, upd2_ne _ _ hn]
      exact h.out r hm
  · by_cases hc : s = sz l ∧ π = pathR l b
    · obtain ⟨rfl, rfl⟩ := hc
      exact ⟨_, (mem_put h.srt).2 (.inl rfl), sz_plain _ _, path_plain hb⟩
    · rw [upd2_ne _ _ hc] at ht
      obtain ⟨r, hm, hs, hp⟩ := h.back _ _ ht
      refine ⟨r, (mem_put h.srt).2 (.inr ⟨hm, fun he => hc ?_⟩), hs, hp⟩
      unfold pf at he
      injection he with e1 e2
      rw [← hs, ← hp, e1, e2, sz_plain, path_plain hb]
      exact ⟨rfl, rfl⟩
theorem MInv.del (h : MInv m th ow) {l : List UInt8} {b : Nat} (hr : rightV l b = true) :
    MInv (delV m (plainV l b, b)) (upd2 th (sz l) (pathR l b) false) (upd2 ow (sz l) (pathR l b) 0) := by
  have hb := (right_len hr).1
  refine ⟨del_srt h.srt _, fun r hm => ?_, fun s π ht => ?_⟩
  · obtain ⟨hm, hne⟩ := (mem_del h.srt).1 hm
    have hn := h.ne_path hr hm hne
    rw [upd2_ne _ _ hn, upd2_ne _ _ hn]
    exact h.out r hm
  · by_cases hc : s = sz l ∧ π = pathR l b
    · obtain ⟨rfl, rfl⟩ := hc
      rw [upd2_same] at ht
      cases ht
    · rw [upd2_ne _ _ hc] at ht
      obtain ⟨r, hm, hs, hp⟩ := h.back _ _ ht
      refine ⟨r, (mem_del h.srt).2 ⟨hm, fun he => hc ?_⟩, hs, hp⟩
      unfold pf at he
      injection he with e1 e2
      rw [← hs, ← hp, e1, e2, sz_plain, path_plain hb]
      exact ⟨rfl, rfl⟩
end
/-- What is taken away one after the other. -/
theorem del_none {m : List Rw} {p : List UInt8 × Nat} (h : wasV m p = false) : delV m p = m := by
  unfold delV
  unfold wasV at h
  rw [List.any_eq_false] at h
  exact List.eraseP_of_forall_not (fun a ha => by simpa using h a ha)
theorem dels_srt : ∀ {ps : List (List UInt8 × Nat)} {m : List Rw}, Srt m → Srt (ps.foldl delV m)
  | [], _, h => h
  | p :: ps, _, h => dels_srt (ps := ps) (del_srt h p)
theorem mem_dels : ∀ {ps : List (List UInt8 × Nat)} {m : List Rw} {r : Rw}, Srt m → (r ∈ ps.foldl delV m ↔ r ∈ m ∧ pf r ∉ ps)
  | [], _, _, _ => by simp
  | p :: ps, m, r, h => by
    rw [List.foldl_cons, mem_dels (del_srt h p), mem_del h, List.mem_cons]
    constructor
    · rintro ⟨⟨h1, h2⟩, h3⟩; exact ⟨h1, fun h => h.elim h2 h3⟩
    · rintro ⟨h1, h2⟩; exact ⟨⟨h1, fun h => h2 (.inl h)⟩, fun h => h2 (.inr h)⟩
def ofV (m : List Rw) (x : Int) : List Rw := m.filter fun r => decide (r.2.2 = x)
theorem dels_drop {m : List Rw} (h : Srt m) (x : Int) : ((ofV m x).map pf).foldl delV m = dropV m x := by
  refine srt_ext (dels_srt h) (drop_srt h x) fun r => ?_
  rw [mem_dels h]
  unfold dropV ofV
  rw [List.mem_filter]
  constructor
  · rintro ⟨h1, h2⟩
    refine ⟨h1, decide_eq_true fun e => h2 ?_⟩
    exact List.mem_map.2 ⟨r, List.mem_filter.2 ⟨h1, decide_eq_true e⟩, rfl⟩
  · rintro ⟨h1, h2⟩
    refine ⟨h1, fun hm => ?_⟩
    obtain ⟨q, hq, he⟩ := List.mem_map.1 hm
    obtain ⟨hq, hx⟩ := List.mem_filter.1 hq
    obtain rfl := srt_one h hq h1 he
    exact (of_decide_eq_true h2) (of_decide_eq_true hx)
theorem of_drop (m : List Rw) (x : Int) : (ofV m x).length + (dropV m x).length = m.length := by
  unfold ofV dropV
  induction m with
  | nil => rfl
  | cons a m ih =>
    rw [List.filter_cons, List.filter_cons, List.length_cons]
    by_cases e : a.2.2 = x
    · rw [if_pos (decide_eq_true e), if_neg (by simp [e]), List.length_cons]; omega
    · rw [if_neg (by simp [e]), if_pos (decide_eq_true e), List.length_cons]; omega

/-- An address's owner by rows: the best row so far. -/
def betV (a : List UInt8) (r : Rw) : Option Rw → Bool
  | none => hasV r.1 r.2.1 a
  | some q => hasV r.1 r.2.1 a && decide (q.2.1 < r.2.1)
def bestR (a : List UInt8) (l : List Rw) (o : Option Rw) : Option Rw := l.foldl (fun o r => if betV a r o then some r else o) o
def ownR (m : List Rw) (a : List UInt8) : Int × Bool := match bestR a m none with
  | none => (0, false)
  | some r => (r.2.2, true)
theorem best_inv (a : List UInt8) : ∀ (l : List Rw) (o : Option Rw), (∀ q, o = some q → hasV q.1 q.2.1 a = true) →
    match bestR a l o with
    | none => o = none ∧ ∀ r ∈ l, hasV r.1 r.2.1 a = false
    | some q => (some q = o ∨ q ∈ l) ∧ hasV q.1 q.2.1 a = true ∧ (∀ r ∈ l, hasV r.1 r.2.1 a = true → r.2.1 ≤ q.2.1) ∧ ∀ q', o = some q' → q'.2.1 ≤ q.2.1
  | [], o, ho => by
    cases o with
    | none => exact ⟨rfl, fun r h => by cases h⟩
    | some q => exact ⟨.inl rfl, ho q rfl, (fun r h => by cases h), fun q' h => by injection h with h; rw [h]; exact Nat.le_refl _⟩
  | r :: l, o, ho => by
    have step : bestR a (r :: l) o = bestR a l (if betV a r o then some r else o) := rfl
    rw [step]
    cases hr : hasV r.1 r.2.1 a with
    | false =>
      rw [if_neg (by cases o <;> simp [betV, hr])]
      have ih := best_inv a l o ho
      cases hb : bestR a l o with
      | none =>
        rw [hb] at ih
        refine ⟨ih.1, fun q hq => ?_⟩
        rcases List.mem_cons.1 hq with rfl | hq
        · exact hr
        · exact ih.2 q hq
      | some q =>
        rw [hb] at ih
        obtain ⟨h1, h2, h3, h4⟩ := ih
        refine ⟨h1.imp id (List.mem_cons_of_mem _), h2, fun x hx hh => ?_, h4⟩
        rcases List.mem_cons.1 hx with rfl | hx
        · rw [hr] at hh; cases hh
        · exact h3 x hx hh
    | true =>
      cases o with
      | none =>
        rw [if_pos (by simp [betV, hr])]
        have ih := best_inv a l (some r) (fun q h => by injection h with h; rw [← h]; exact hr)
        cases hb : bestR a l (some r) with
        | none => rw [hb] at ih; cases ih.1
        | some q =>
          rw [hb] at ih
          obtain ⟨h1, h2, h3, h4⟩ := ih
          refine ⟨.inr ?_, h2, fun x hx hh => ?_, fun q' h => by cases h⟩
          · rcases h1 with h1 | h1
            · injection h1 with h1; rw [h1]; exact List.mem_cons_self
            · exact List.mem_cons_of_mem _ h1
          · rcases List.mem_cons.1 hx with rfl | hx
            · exact h4 x rfl
            · exact h3 x hx hh
      | some q0 =>
        by_cases hlt : q0.2.1 < r.2.1
        · rw [if_pos (by simp [betV, hr, hlt])]
          have ih := best_inv a l (some r) (fun q h => by injection h with h; rw [← h]; exact hr)
          cases hb : bestR a l (some r) with
          | none => rw [hb] at ih; cases ih.1
          | some q =>
            rw [hb] at ih
            obtain ⟨h1, h2, h3, h4⟩ := ih
            refine ⟨.inr ?_, h2, fun x hx hh => ?_, fun q' h => ?_⟩
            · rcases h1 with h1 | h1
              · injection h1 with h1; rw [h1]; exact List.mem_cons_self
              · exact List.mem_cons_of_mem _ h1
            · rcases List.mem_cons.1 hx with rfl | hx
              · exact h4 x rfl
              · exact h3 x hx hh
            · injection h with h
              subst h
              have := h4 r rfl
              omega
        · rw [if_neg (by simp [betV, hlt])]
          have ih := best_inv a l (some q0) ho
          cases hb : bestR a l (some q0) with
          | none => rw [hb] at ih; cases ih.1
          | some q =>
            rw [hb] at ih
            obtain ⟨h1, h2, h3, h4⟩ := ih
            refine ⟨h1.imp id (List.mem_cons_of_mem _), h2, fun x hx hh => ?_, h4⟩
            rcases List.mem_cons.1 hx with rfl | hx
            · have := h4 q0 rfl
              omega
            · exact h3 x hx hh
/-- The owner by paths, said in one word. -/
theorem bestV_is {th : List Bool → Bool} {ow : List Bool → Int} {l : List UInt8} : ∀ k, (bestV th ow l k = (0, false) ∧ ∀ i, i < k → th (pathR l i) = false) ∨
    ∃ i, i < k ∧ th (pathR l i) = true ∧ bestV th ow l k = (ow (pathR l i), true) ∧ ∀ j, i < j → j < k → th (pathR l j) = false
  | 0 => .inl ⟨rfl, fun i h => absurd h (Nat.not_lt_zero _)⟩
  | k + 1 => by
    rw [bestV]
    cases h : th (pathR l k) with
    | true =>
      rw [if_pos rfl]
      exact .inr ⟨k, Nat.lt_succ_self _, h, rfl, fun j h1 h2 => by omega⟩
    | false =>
      rw [if_neg (by decide)]
      rcases bestV_is (th := th) (ow := ow) (l := l) k with ⟨h1, h2⟩ | ⟨i, h1, h2, h3, h4⟩
      · refine .inl ⟨h1, fun i hi => ?_⟩
        by_cases e : i = k
        · rw [e]; exact h
        · exact h2 i (by omega)
      · refine .inr ⟨i, by omega, h2, h3, fun j hj1 hj2 => ?_⟩
        by_cases e : j = k
        · rw [e]; exact h
        · exact h4 j hj1 (by omega)
theorem has_path {l a : List UInt8} {b : Nat} (hr : rightV l b = true) : hasV l (b : Int) a = true ↔ a.length = l.length ∧ pathR l b = pathR a b := by
  unfold hasV
  rw [hr, Int.toNat_natCast]
  simp only [Bool.true_and, Bool.and_eq_true, decide_eq_true_eq]
  rw [same_bits (right_len hr).1, path_iff]
theorem own_same {m : List Rw} {th : ThF} {ow : OwF} (h : MInv m th ow) {a : List UInt8} (h416 : a.length = 4 ∨ a.length = 16) : ownR m a = bestV (th (sz a)) (ow (sz a)) a (8 * a.length + 1) := by
  have hra : rightV a 0 = true := by unfold rightV; rcases h416 with e | e <;> rw [e] <;> rfl
  have hb := best_inv a m none (fun q h => by cases h)
  unfold ownR
  have key : ∀ r ∈ m, hasV r.1 r.2.1 a = true ↔ sz r.1 = sz a ∧ pathR r.1 r.2.1 = pathR a r.2.1 := by
    intro r hr
    obtain ⟨h1, h2, h3, h4⟩ := h.out r hr
    rw [has_path h1]
    constructor
    · rintro ⟨e1, e2⟩
      exact ⟨by unfold sz; rw [e1], e2⟩
    · rintro ⟨e1, e2⟩
      exact ⟨(len_of_sz h1 hra e1).symm, e2⟩
  rcases bestV_is (th := th (sz a)) (ow := ow (sz a)) (l := a) (8 * a.length + 1) with ⟨h1, h2⟩ | ⟨i, h1, h2, h3, h4⟩
  · rw [h1]
    cases hx : bestR a m none with
    | none => rfl
    | some q =>
      rw [hx] at hb
      obtain ⟨hq1, hq2, _, _⟩ := hb
      have hq : q ∈ m := hq1.resolve_left (fun h => by cases h)
      obtain ⟨e1, e2⟩ := (key q hq).1 hq2
      obtain ⟨g1, g2, g3, _⟩ := h.out q hq
      have hlen := len_of_sz g1 hra e1
      have hbq := (right_len g1).1
      rw [e1, e2, h2 q.2.1 (by omega)] at g3
      cases g3
  · rw [h3]
    obtain ⟨r, hr, hs, hp⟩ := h.back _ _ h2
    obtain ⟨g1, g2, g3, g4⟩ := h.out r hr
    have hbi : r.2.1 = i := by have := congrArg List.length hp; rwa [path_len, path_len] at this
    have hhas : hasV r.1 r.2.1 a = true := (key r hr).2 ⟨hs, by rw [hp, hbi]⟩
    cases hx : bestR a m none with
    | none =>
      rw [hx] at hb
      rw [hb.2 r hr] at hhas
      cases hhas
    | some q =>
      rw [hx] at hb
      obtain ⟨hq1, hq2, hq3, _⟩ := hb
      have hq : q ∈ m := hq1.resolve_left (fun h => by cases h)
      obtain ⟨e1, e2⟩ := (key q hq).1 hq2
      obtain ⟨k1, k2, k3, k4⟩ := h.out q hq
      have hle := hq3 r hr hhas
      have hlen := len_of_sz k1 hra e1
      have hbq := (right_len k1).1
      have hqi : q.2.1 = i := by
        by_cases hlt : i < q.2.1
        · have := h4 q.2.1 hlt (by omega)
          rw [e1, e2, this] at k3
          cases k3
        · omega
      show (q.2.2, true) = _
      rw [← k4, e1, e2, hqi]
end
section
open Go.RowKit Go.Deep

theorem Try.info5 : (Try.prog.info? 5).map (fun i => (i.zero, i.size, i.bytes)) = some (some (.int .u8 0), 1, 1) := by kernel_rfl

/-- A slice of the call's own, or a nil one. -/
def OwnB (w : World) (base : Nat) (v : Value) (xs : List Int) : Prop := w.ownsRow base 5 1 v xs.length (ints .u8 xs)

theorem OwnB.nil (w : World) (base : Nat) : OwnB w base (.slice none 0 0) [] := ⟨rfl, .inl ⟨rfl, rfl⟩⟩
theorem OwnB.rd {w : World} {base : Nat} {v : Value} {xs : List Int} {N : List Nat} (h : OwnB w base v xs) (hN : ∀ x ∈ N, x < base) : Rd w N v (ints .u8 xs) := (Rd.of_own h hN).1

theorem OwnB.only {S : List Nat} {w w' : World} {base : Nat} {v : Value} {xs : List Int} (h : OwnB w base v xs) (ho : Only S w w') (hS : ∀ x ∈ S, x < base) : OwnB w' base v xs := own_only h ho hS
theorem OwnB.base {w : World} {base base' : Nat} {v : Value} {xs : List Int} (h : OwnB w base v xs) (hb : base' ≤ base) : OwnB w base' v xs := own_base h hb

theorem clone_any (w : World) (N : List Nat) (v : Value) (xs : List Int) (hv : Rd w N v (ints .u8 xs)) (hl : xs.length ≤ 140737488351232) :
    Calls Try.prog 36 #[v] w fun e w' => ∃ v', e = .returned v' ∧ OwnB w' w.heap.size v' xs ∧ Only [] w w' := by
  obtain ⟨i0, hi, hz0, hz1, hz2⟩ := info_parts Try.info5
  obtain ⟨A, cap, rfl, hc, hm⟩ := hv.formi
  have hrd := hide hv.reads
  unfold maxLen at hm
  have qn := fun (W : World) (A : Option Addr) (n c : Nat) => Lib.run_eql_slice_nil (P := Try.prog) W 23 5 A n c 0 0 Try.underlying23
  cases A with
  | none =>
    have hx : xs = [] := by
      cases xs with
      | nil => rfl
      | cons y l =>
        obtain ⟨g, o, hA, _⟩ := hv.at_.2.2.2 0 (.int .u8 y) rfl
        cases hA
    subst hx
    clear hv
    go_enter Try.func36, Try.ntmps36
    go_wp2_with fail
    go_ret
    exact ⟨_, rfl, OwnB.nil _ _, Only.refl _ _⟩
  | some a =>
    have hown0 := own_empty w 5 w.heap.size (Nat.le_refl _)
    have HO0 := hide ((Only.refl [] w).alloc (.cells #[] 5))
    have hrd0 := hide (show Reads (w.alloc (.cells #[] 5)) w.heap.size 1 (some a) xs.length (ints .u8 xs) from hrd.out.alloc (Nat.le_refl _) _)
    have hown0 := hide hown0
    have ho := hide (ints_one .u8 xs)
    clear hv hrd
    generalize hn : xs.length = n at hl hc hrd0
    have HN := hide hn
    unfold OwnB
    rw [hn]
    clear hn
    generalize ints .u8 xs = cs at hrd0 ho
    go_enter Try.func36, Try.ntmps36
    go_wp2_with (at_builtin; refine wpList_append_any _ rfl (.tmp 5) (.tmp 6) 23 rfl w.heap.size 5 i0 (.int .u8 0) 1 1 Try.underlying23 hi hz0 hz1 hz2 rfl (by decide) _ 0 [] rfl hown0.out w.heap.size (some a) n cap cs rfl hrd0.out ho.out (by unfold maxLen; omega) (by omega) (by simp) ?_; intro v1 w1 hown1 hg1 _; have HOWN1 := hide hown1; have ho1 := hide (HO0.out.grown hg1 (fun j hj => .inr (own_block_ge hown0.out hj))); clear hown1 hg1)
    go_ret
    refine ⟨v1, rfl, ?_, ho1.out⟩
    have h := HOWN1.out
    rw [Nat.zero_add, List.nil_append] at h
    exact h
end
section
open Go.RowKit Go.Deep

/-- A row with the value of its bytes. -/
abbrev PRw := Value × Rw
def rowC (p : PRw) : List Value := [p.1, .int .i64 p.2.2.1, .int .i64 p.2.2.2]
def pfxC (p : PRw) : List Value := [p.1, .int .i64 p.2.2.1]
theorem rowC_len (p : PRw) : (rowC p).length = 3 := rfl
theorem pfxC_len (p : PRw) : (pfxC p).length = 2 := rfl
theorem rd_more {w : World} {N N' : List Nat} {v : Value} {xs : List Value} (h : Rd w N v xs) (hs : ∀ x ∈ N', x ∈ N ∨ w.heap.size ≤ x) : Rd w N' v xs := by
  obtain ⟨A, cap, hv, hc, hm, h⟩ := h
  refine ⟨A, cap, hv, hc, hm, ?_⟩
  rcases h with h | ⟨g, o, hA, hg, hl, hcell⟩
  · exact .inl h
  · exact .inr ⟨g, o, hA, fun hh => (hs g hh).elim hg (by omega), hl, hcell⟩
theorem own_only2 {S : List Nat} {w w' : World} {base e size n : Nat} {v : Value} {xs : List Value} (h : w.ownsRow base e size v n xs) (ho : Only S w w') (hS : ∀ x ∈ S, v.ownBlock ≠ some x) : w'.ownsRow base e size v n xs := by
  refine ⟨h.1, ?_⟩
  rcases h.2 with ⟨rfl, rfl⟩ | ⟨g, cap, cur, rfl, hb, hh, h3⟩
  · exact .inl ⟨rfl, rfl⟩
  · exact .inr ⟨g, cap, cur, rfl, hb, (ho.block g (Blk.lt (t := e) (cs := cur) hh) (fun hx => hS g hx rfl)).trans hh, h3⟩
theorem own_lt {w : World} {base e size n : Nat} {v : Value} {xs : List Value} (h : w.ownsRow base e size v n xs) {g : Nat} (hg : v.ownBlock = some g) : g < w.heap.size := by
  rcases h.2 with ⟨rfl, _⟩ | ⟨g', cap, cur, rfl, _, hh, _⟩
  · cases hg
  · injection hg with hg
    rw [← hg]
    exact Blk.lt (t := e) (cs := cur) hh

/-- A list of rows that is being built: its own block, none of N; the bytes lie elsewhere. -/
def LisIs (k : Nat) (F : PRw → List Value) (e : TypeId) (w : World) (base : Nat) (N : List Nat) (v : Value) (l : List Rw) : Prop :=
  ∃ ps : List PRw, ps.map Prod.snd = l ∧ w.ownsRow base e k v ps.length (ps.flatMap F) ∧ (∀ p ∈ ps, Rd w (v.ownBlock.toList ++ N) p.1 (ints .u8 (byts p.2.1))) ∧ ∀ x ∈ N, v.ownBlock ≠ some x ∧ x < w.heap.size
section
variable {k : Nat} {F : PRw → List Value} {e : TypeId} {w w' : World} {base : Nat} {N : List Nat} {v : Value} {l : List Rw}
theorem LisIs.nil (hN : ∀ x ∈ N, x < w.heap.size) : LisIs k F e w base N (.slice none 0 0) [] :=
  ⟨[], rfl, ⟨by simp, .inl ⟨rfl, rfl⟩⟩, fun p h => (by cases h), fun x hx => ⟨(by simp [Value.ownBlock]), hN x hx⟩⟩
theorem LisIs.only {S : List Nat} (h : LisIs k F e w base N v l) (ho : Only S w w') (hS : ∀ x ∈ S, x ∈ N) : LisIs k F e w' base N v l := by
  obtain ⟨ps, h1, h2, h3, h4⟩ := h
  exact ⟨ps, h1, own_only2 h2 ho (fun x hx => (h4 x (hS x hx)).1), fun p hp => (h3 p hp).only ho (fun x hx => List.mem_append_right _ (hS x hx)), fun x hx => ⟨(h4 x hx).1, Nat.lt_of_lt_of_le (h4 x hx).2 ho.size⟩⟩
theorem LisIs.form (h : LisIs k F e w base N v l) : ∃ A c, v = .slice A l.length c ∧ l.length ≤ c ∧ c ≤ maxLen := by
  obtain ⟨ps, h1, h2, _⟩ := h
  obtain ⟨A, c, hv, hc, hm⟩ := own_form h2
  have : l.length = ps.length := by rw [← h1, List.length_map]
  rw [this]
  exact ⟨A, c, hv, hc, hm⟩
/-- One more block to keep apart: a new one. -/
theorem LisIs.keep (h : LisIs k F e w base N v l) (ho : Only [] w w') {g : Nat} (hg : w.heap.size ≤ g) (hg2 : g < w'.heap.size) : LisIs k F e w' base (g :: N) v l := by
  obtain ⟨ps, h1, h2, h3, h4⟩ := h
  refine ⟨ps, h1, own_only2 h2 ho (by simp), fun p hp => rd_more ((rd_more (h3 p hp) (N' := v.ownBlock.toList ++ g :: N) ?_).only ho (by simp)) (fun x hx => .inl hx), fun x hx => ?_⟩
  · intro x hx
    rcases List.mem_append.1 hx with hx | hx
    · exact .inl (List.mem_append_left _ hx)
    · rcases List.mem_cons.1 hx with rfl | hx
      · exact .inr hg
      · exact .inl (List.mem_append_right _ hx)
  · rcases List.mem_cons.1 hx with rfl | hx
    · exact ⟨fun hh => by have := own_lt h2 hh; omega, hg2⟩
    · exact ⟨(h4 x hx).1, Nat.lt_of_lt_of_le (h4 x hx).2 ho.size⟩
theorem LisIs.less {N' : List Nat} (h : LisIs k F e w base N v l) (hs : ∀ x ∈ N', x ∈ N) : LisIs k F e w base N' v l := by
  obtain ⟨ps, h1, h2, h3, h4⟩ := h
  refine ⟨ps, h1, h2, fun p hp => (h3 p hp).less (fun x hx => ?_), fun x hx => h4 x (hs x hx)⟩
  rcases List.mem_append.1 hx with hx | hx
  · exact List.mem_append_left _ hx
  · exact List.mem_append_right _ (hs x hx)
theorem LisIs.snoc {ps : List PRw} {av v' : Value} {r : Rw} (h1 : ps.map Prod.snd = l) (h3 : ∀ p ∈ ps, Rd w (v.ownBlock.toList ++ N) p.1 (ints .u8 (byts p.2.1))) (h4 : ∀ x ∈ N, v.ownBlock ≠ some x ∧ x < w.heap.size)
    (hav : Rd w (v.ownBlock.toList ++ N) av (ints .u8 (byts r.1))) (hown : w'.ownsRow base e k v' (ps.length + 1) (ps.flatMap F ++ F (av, r))) (ho : Only v.ownBlock.toList w w')
    (hb : v'.ownBlock = v.ownBlock ∨ ∃ g, v'.ownBlock = some g ∧ w.heap.size ≤ g) : LisIs k F e w' base N v' (l ++ [r]) := by
  have hkeep : ∀ (u : Value) (xs : List Value), Rd w (v.ownBlock.toList ++ N) u xs → Rd w' (v'.ownBlock.toList ++ N) u xs := fun u xs hu => by
    rcases hb with hb | ⟨g, hb, hg⟩
    · rw [hb]; exact hu.only ho (fun x hx => List.mem_append_left _ hx)
    · refine Rd.less ((rd_more hu (N' := g :: (v.ownBlock.toList ++ N)) (fun x hx => ?_)).only ho (fun x hx => List.mem_cons_of_mem _ (List.mem_append_left _ hx))) (fun x hx => ?_)
      · rcases List.mem_cons.1 hx with rfl | hx
        · exact .inr hg
        · exact .inl hx
      · rw [hb] at hx
        rcases List.mem_append.1 hx with hx | hx
        · simp at hx; rw [hx]; exact List.mem_cons_self
        · exact List.mem_cons_of_mem _ (List.mem_append_right _ hx)
  refine ⟨ps ++ [(av, r)], by rw [List.map_append, h1]; rfl, by rw [List.length_append, List.flatMap_append]; simpa using hown, fun p hp => ?_, fun x hx => ?_⟩
  · rcases List.mem_append.1 hp with hp | hp
    · exact hkeep _ _ (h3 p hp)
    · obtain rfl : p = (av, r) := by simpa using hp
      exact hkeep _ _ hav
  · refine ⟨?_, Nat.lt_of_lt_of_le (h4 x hx).2 ho.size⟩
    rcases hb with hb | ⟨g, hb, hg⟩
    · rw [hb]; exact (h4 x hx).1
    · rw [hb]; intro he; injection he with he; have := (h4 x hx).2; omega
end
/-- Rows that are read. -/
def RowsRd (k : Nat) (F : PRw → List Value) (w : World) (N : List Nat) (v : Value) (l : List Rw) : Prop :=
  ∃ ps : List PRw, ps.map Prod.snd = l ∧ RdS k F w N v ps ∧ ∀ p ∈ ps, Rd w N p.1 (ints .u8 (byts p.2.1))
section
variable {k : Nat} {F : PRw → List Value} {w w' : World} {N : List Nat} {v : Value} {l : List Rw}
theorem RowsRd.nil (w : World) (N : List Nat) : RowsRd k F w N (.slice none 0 0) [] := ⟨[], rfl, RdS.nil w N, fun p h => by cases h⟩
theorem RowsRd.only {S : List Nat} (h : RowsRd k F w N v l) (ho : Only S w w') (hs : ∀ x ∈ S, x ∈ N) : RowsRd k F w' N v l := by
  obtain ⟨ps, h1, h2, h3⟩ := h
  exact ⟨ps, h1, h2.only ho hs, fun p hp => (h3 p hp).only ho hs⟩
theorem RowsRd.form (h : RowsRd k F w N v l) : ∃ A cap, v = .slice A l.length cap ∧ l.length ≤ cap ∧ cap ≤ maxLen := by
  obtain ⟨ps, h1, h2, _⟩ := h
  obtain ⟨A, cap, hv, hc, hm⟩ := h2.form
  have : l.length = ps.length := by rw [← h1, List.length_map]
  rw [this]
  exact ⟨A, cap, hv, hc, hm⟩
theorem LisIs.rd {e : TypeId} {base : Nat} (hk : ∀ p, (F p).length = k) (hk0 : 0 < k) (h : LisIs k F e w base N v l) : RowsRd k F w N v l := by
  obtain ⟨ps, h1, h2, h3, h4⟩ := h
  refine ⟨ps, h1, ?_, fun p hp => (h3 p hp).less (fun x hx => List.mem_append_right _ hx)⟩
  have h5 := (RdS.of_own (N := []) hk hk0 h2 (by simp)).1
  obtain ⟨A, cap, hv, hc, hm, h⟩ := h5
  refine ⟨A, cap, hv, hc, hm, ?_⟩
  rcases h with h | ⟨g, o, hA, hg, hl, hcell⟩
  · exact .inl h
  · refine .inr ⟨g, o, hA, fun hx => (h4 g hx).1 ?_, hl, hcell⟩
    rw [hv, hA]
    rfl
end
theorem dfs_none {bl : List Nat} {T : Nat} {ad : Ads} {th : ThF} {ow : OwF} {w : World} (h : TrIs w T bl ad th ow) {s : Bool} {n : Nat} : ∀ {k : Nat} {π : List Bool}, ad s π = none → dfsL (th s) (ow s) n k π = []
  | 0, π, hn => by unfold dfsL nodeV; rw [if_neg (by rw [(h.bare s π hn).1]; decide)]
  | k + 1, π, hn => by
    have hkid : ∀ c, ad s (c :: π) = none := fun c => by
      cases hc : ad s (c :: π) with
      | none => rfl
      | some p =>
        have := h.ads.up s c π (by rw [hc]; rfl)
        rw [hn] at this
        cases this
    rw [dfsL, dfs_none h (hkid false), dfs_none h (hkid true)]
    unfold nodeV
    rw [if_neg (by rw [(h.bare s π hn).1]; decide)]
    rfl
end
section
open Go.RowKit Go.Deep

def RetB (r : Bool) (w : World) (e : Ending) (w' : World) : Prop := e = .returned (.bool r) ∧ Only [] w w'
theorem retb {r s : Bool} {w w' : World} (h : r = s) (ho : Only [] w w') : RetB r w (.returned (.bool s)) w' := by subst h; exact ⟨rfl, ho⟩
end
end Go.Proofs.Ytokaobilphfdoaa

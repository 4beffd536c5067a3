/-
  The ring as a list: each function's contract in terms of what is in the ring, in order; and the law's own example.
-/
import Derived.Test.YtokpdhcgclfmnaaRing3
namespace Go.Proofs.Ytokpdhcgclfmnaa
open Go.RowKit Go.Deep

theorem add_mod_if (f i n : Nat) (hf : f < n) (hi : i ≤ n) : (f + i) % n = if f + i < n then f + i else f + i - n := by
  split
  · exact Nat.mod_eq_of_lt ‹_›
  · rw [Nat.mod_eq_sub_mod (by omega)]
    exact Nat.mod_eq_of_lt (by omega)

theorem ringL_length (xs : List Int) (n f c : Nat) : (ringL xs n f c).length = c := by simp [ringL]

theorem ringL_ext {xs ys : List Int} {n f f' c : Nat} (h : ∀ i, i < c → xs.getD ((f + i) % n) 0 = ys.getD ((f' + i) % n) 0) : ringL xs n f c = ringL ys n f' c := by
  unfold ringL
  apply List.map_congr_left
  intro i hi
  exact h i (List.mem_range.1 hi)

theorem getD_set_ne (xs : List Int) (i j : Nat) (v : Int) (h : i ≠ j) : (xs.set i v).getD j 0 = xs.getD j 0 := by
  simp [List.getD_eq_getElem?_getD, h]

theorem getD_set_eq (xs : List Int) (i : Nat) (v : Int) (h : i < xs.length) : (xs.set i v).getD i 0 = v := by
  simp [List.getD_eq_getElem?_getD, h]

theorem ringL_push (xs : List Int) (n f c : Nat) (x : Int) (hl : xs.length = n) (hf : f < n) (hc : c < n) : ringL (xs.set ((f + c) % n) x) n f (c + 1) = ringL xs n f c ++ [x] := by
  rw [ringL_succ]
  congr 1
  · refine ringL_ext fun i hi => ?_
    rw [getD_set_ne]
    rw [add_mod_if f c n hf (by omega), add_mod_if f i n hf (by omega)]
    split <;> split <;> omega
  · rw [getD_set_eq _ _ _ (by rw [hl]; exact Nat.mod_lt _ (by omega))]

theorem ringL_cons (xs : List Int) (n f c : Nat) (hf : f < n) (hc : c + 1 ≤ n) : ringL xs n f (c + 1) = xs.getD f 0 :: ringL (xs.set f 0) n ((f + 1) % n) c := by
  unfold ringL
  rw [List.range_succ_eq_map, List.map_cons, List.map_map]
  congr 1
  · rw [Nat.add_zero, Nat.mod_eq_of_lt hf]
  · apply List.map_congr_left
    intro i hi
    have hi' := List.mem_range.1 hi
    have e : ((f + 1) % n + i) % n = (f + (i + 1)) % n := by rw [Nat.mod_add_mod]; congr 1; omega
    rw [Function.comp, e, getD_set_ne]
    rw [add_mod_if f (i + 1) n hf (by omega)]
    split <;> omega

theorem ringL_back (xs : List Int) (n f c : Nat) (hf : f < n) (hc : c + 1 ≤ n) : ringL xs n f (c + 1) = ringL (xs.set ((f + c) % n) 0) n f c ++ [xs.getD ((f + c) % n) 0] := by
  rw [ringL_succ]
  congr 1
  refine ringL_ext fun i hi => ?_
  rw [getD_set_ne]
  rw [add_mod_if f c n hf (by omega), add_mod_if f i n hf (by omega)]
  split <;> split <;> omega

/-- The ring behind b (its row g, its room n) holds L. -/
def RingIs (w : World) (b g n : Nat) (L : List Int) : Prop := ∃ xs f c, RingAt w b g n xs f c ∧ L = ringL xs n f c

theorem RingIs.only {S : List Nat} {w w' : World} {b g n : Nat} {L : List Int} (h : RingIs w b g n L) (ho : Only S w w') (hb : b ∉ S) (hg : g ∉ S) : RingIs w' b g n L := by
  obtain ⟨xs, f, c, h, hL⟩ := h
  exact ⟨xs, f, c, h.only ho hb hg, hL⟩
theorem RingIs.len {w : World} {b g n : Nat} {L : List Int} (h : RingIs w b g n L) : L.length ≤ n ∧ n ≤ 4096 ∧ 1 ≤ n := by
  obtain ⟨xs, f, c, h, rfl⟩ := h
  rw [ringL_length]
  exact ⟨h.2.2.2.2.1, h.2.2.2.2.2, by have := h.2.2.2.1; omega⟩
theorem RingIs.lt {w : World} {b g n : Nat} {L : List Int} (h : RingIs w b g n L) : b < w.heap.size ∧ g < w.heap.size ∧ b ≠ g := by
  obtain ⟨xs, f, c, h, rfl⟩ := h
  exact ⟨h.1.lt, h.2.1.lt, h.1.ne_ h.2.1 (by decide)⟩

theorem getD_get {xs : List Int} {i : Nat} (h : i < xs.length) : xs[i]? = some (xs.getD i 0) := by simp [List.getD_eq_getElem?_getD, h]

theorem ringis_new (n : Nat) (w : World) (h1 : 1 ≤ n) (h2 : n ≤ 4096) :
    Calls Try.prog 13 #[.int .i64 n] w fun e w' => ∃ b g, e = .returned (.tuple #[.pointer (some ⟨b, 0, none⟩), .int .i64 0]) ∧ RingIs w' b g n [] ∧ Only [] w w' ∧ w.heap.size ≤ b ∧ w.heap.size ≤ g :=
  (ring_new n w h1 h2).mono fun _ _ ⟨b, g, he, hr, ho, h⟩ => ⟨b, g, he, ⟨_, _, _, hr, rfl⟩, ho, h⟩

theorem ringis_len (w : World) (b g n : Nat) (L : List Int) (hr : RingIs w b g n L) :
    Calls Try.prog 19 #[.pointer (some ⟨b, 0, none⟩)] w fun e w' => e = .returned (.int .i64 L.length) ∧ w = w' := by
  obtain ⟨xs, f, c, h, rfl⟩ := hr
  rw [ringL_length]
  exact ring_len w b g n xs f c h

theorem ringis_room (w : World) (b g n : Nat) (L : List Int) (hr : RingIs w b g n L) :
    Calls Try.prog 20 #[.pointer (some ⟨b, 0, none⟩)] w fun e w' => e = .returned (.int .i64 n) ∧ w = w' := by
  obtain ⟨xs, f, c, h, rfl⟩ := hr
  exact ring_room w b g n xs f c h

theorem ringis_push (w : World) (b g n : Nat) (L : List Int) (x : Int) (hr : RingIs w b g n L) (hl : L.length < n) :
    Calls Try.prog 15 #[.pointer (some ⟨b, 0, none⟩), .int .u64 x] w fun e w' => e = .returned (.tuple #[.int .u64 0, .bool false]) ∧ RingIs w' b g n (L ++ [x]) ∧ Only [b, g] w w' := by
  obtain ⟨xs, f, c, h, rfl⟩ := hr
  rw [ringL_length] at hl
  refine (ring_push w b g n xs f c x h hl).mono fun e w' ⟨he, hr', ho⟩ => ⟨he, ⟨_, _, _, hr', ?_⟩, ho⟩
  rw [ringL_push xs n f c x h.2.2.1 h.2.2.2.1 hl]

theorem ringis_push_full (w : World) (b g n : Nat) (L : List Int) (x y : Int) (hr : RingIs w b g n (y :: L)) (hl : L.length + 1 = n) :
    Calls Try.prog 15 #[.pointer (some ⟨b, 0, none⟩), .int .u64 x] w fun e w' => e = .returned (.tuple #[.int .u64 y, .bool true]) ∧ RingIs w' b g n (L ++ [x]) ∧ Only [b, g] w w' := by
  obtain ⟨xs, f, c, h, hL⟩ := hr
  have hc : c = L.length + 1 := by have := congrArg List.length hL; rw [ringL_length] at this; simpa using this.symm
  subst hc
  rw [ringL_cons xs n f L.length h.2.2.2.1 (by omega)] at hL
  injection hL with h1 h2
  have hfx : f < xs.length := by rw [h.2.2.1]; exact h.2.2.2.1
  have hy : xs[f]? = some y := by rw [getD_get hfx, h1]
  refine (ring_push_full w b g n xs f (L.length + 1) x y h hl hy).mono fun e w' ⟨he, hr', ho⟩ => ⟨he, ⟨_, _, _, hr', ?_⟩, ho⟩
  rw [Nat.add_sub_cancel]
  rw [ringL_push (xs.set f 0) n ((f + 1) % n) L.length x (by simpa using h.2.2.1) (Nat.mod_lt _ (by omega)) (by omega), ← h2]

theorem ringis_pop (w : World) (b g n : Nat) (L : List Int) (y : Int) (hr : RingIs w b g n (y :: L)) :
    Calls Try.prog 16 #[.pointer (some ⟨b, 0, none⟩)] w fun e w' => e = .returned (.tuple #[.int .u64 y, .bool true]) ∧ RingIs w' b g n L ∧ Only [b, g] w w' := by
  obtain ⟨xs, f, c, h, hL⟩ := hr
  have hc : c = L.length + 1 := by have := congrArg List.length hL; rw [ringL_length] at this; simpa using this.symm
  subst hc
  rw [ringL_cons xs n f L.length h.2.2.2.1 h.2.2.2.2.1] at hL
  injection hL with h1 h2
  have hfx : f < xs.length := by rw [h.2.2.1]; exact h.2.2.2.1
  have hy : xs[f]? = some y := by rw [getD_get hfx, h1]
  refine (ring_pop w b g n xs f (L.length + 1) y h (by omega) hy).mono fun e w' ⟨he, hr', ho⟩ => ⟨he, ⟨_, _, _, hr', ?_⟩, ho⟩
  rw [Nat.add_sub_cancel]
  exact h2

theorem ringis_back (w : World) (b g n : Nat) (L : List Int) (y : Int) (hr : RingIs w b g n (L ++ [y])) :
    Calls Try.prog 17 #[.pointer (some ⟨b, 0, none⟩)] w fun e w' => e = .returned (.tuple #[.int .u64 y, .bool true]) ∧ RingIs w' b g n L ∧ Only [b, g] w w' := by
  obtain ⟨xs, f, c, h, hL⟩ := hr
  have hc : c = L.length + 1 := by have := congrArg List.length hL; rw [ringL_length] at this; simpa using this.symm
  subst hc
  rw [ringL_back xs n f L.length h.2.2.2.1 h.2.2.2.2.1] at hL
  obtain ⟨h1, h2⟩ := List.append_inj' hL rfl
  injection h2 with h2
  have hq : (f + L.length) % n < xs.length := by rw [h.2.2.1]; exact Nat.mod_lt _ (by have := h.2.2.2.1; omega)
  have hy : xs[(f + L.length) % n]? = some y := by rw [getD_get hq, h2]
  refine (ring_back w b g n xs f (L.length + 1) y h (by omega) (by rw [Nat.add_sub_cancel]; exact hy)).mono fun e w' ⟨he, hr', ho⟩ => ⟨he, ⟨_, _, _, hr', ?_⟩, ho⟩
  rw [Nat.add_sub_cancel]
  exact h1

theorem ringis_clear (w : World) (b g n : Nat) (L : List Int) (hr : RingIs w b g n L) :
    Calls Try.prog 18 #[.pointer (some ⟨b, 0, none⟩)] w fun e w' => e = .returned (.int .i64 L.length) ∧ RingIs w' b g n [] ∧ Only [b, g] w w' := by
  obtain ⟨xs, f, c, h, rfl⟩ := hr
  rw [ringL_length]
  exact (ring_clear w b g n xs f c h).mono fun e w' ⟨he, hr', ho⟩ => ⟨he, ⟨_, _, _, hr', rfl⟩, ho⟩

theorem ringis_all (w : World) (b g n : Nat) (L : List Int) (hr : RingIs w b g n L) :
    Calls Try.prog 22 #[.pointer (some ⟨b, 0, none⟩)] w fun e w' => ∃ v, e = .returned v ∧ w'.ownsRow w.heap.size 33 1 v L.length (ints .u64 L) ∧ Only [] w w' := by
  obtain ⟨xs, f, c, h, rfl⟩ := hr
  rw [ringL_length]
  exact ring_all w b g n xs f c h

/-- An empty ring gives nothing. -/
theorem ringis_pop_none (w : World) (b g n : Nat) (hr : RingIs w b g n []) :
    Calls Try.prog 16 #[.pointer (some ⟨b, 0, none⟩)] w fun e w' => e = .returned (.tuple #[.int .u64 0, .bool false]) ∧ Only [] w w' := by
  obtain ⟨xs, f, c, h, hL⟩ := hr
  have hc : c = 0 := by have := congrArg List.length hL; rw [ringL_length] at this; simpa using this.symm
  have h2 := h.1.cell 2
  simp [hc] at h2
  clear h hL hc
  go_enter Try.func16, Try.ntmps16
  go_wp2
  go_ret2
  exact ⟨rfl, (Only.refl _ _).alloc _⟩
theorem ringis_back_none (w : World) (b g n : Nat) (hr : RingIs w b g n []) :
    Calls Try.prog 17 #[.pointer (some ⟨b, 0, none⟩)] w fun e w' => e = .returned (.tuple #[.int .u64 0, .bool false]) ∧ Only [] w w' := by
  obtain ⟨xs, f, c, h, hL⟩ := hr
  have hc : c = 0 := by have := congrArg List.length hL; rw [ringL_length] at this; simpa using this.symm
  have h2 := h.1.cell 2
  simp [hc] at h2
  clear h hL hc
  go_enter Try.func17, Try.ntmps17
  go_wp2
  go_ret2
  exact ⟨rfl, (Only.refl _ _).alloc _⟩
end Go.Proofs.Ytokpdhcgclfmnaa

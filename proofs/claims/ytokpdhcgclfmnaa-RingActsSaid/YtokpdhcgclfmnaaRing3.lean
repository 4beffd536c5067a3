/-
  Contracts of ring.All and of the reference's Push, by walking.
-/
import Derived.Test.YtokpdhcgclfmnaaRing2
import Derived.Deep.RegionLaw
namespace Go.Proofs.Ytokpdhcgclfmnaa
open Go.RowKit Go.Deep

/-- What is in the ring, from the first one on. -/
def ringL (xs : List Int) (n f : Nat) (c : Nat) : List Int := (List.range c).map fun i => xs.getD ((f + i) % n) 0

theorem ringL_succ (xs : List Int) (n f c : Nat) : ringL xs n f (c + 1) = ringL xs n f c ++ [xs.getD ((f + c) % n) 0] := by
  simp [ringL, List.range_succ]

theorem ring_all (w : World) (b g n : Nat) (xs : List Int) (f c : Nat) (hr : RingAt w b g n xs f c) :
    Calls Try.prog 22 #[.pointer (some ⟨b, 0, none⟩)] w fun e w' => ∃ v, e = .returned v ∧ w'.ownsRow w.heap.size 33 1 v c (ints .u64 (ringL xs n f c)) ∧ Only [] w w' := by
  obtain ⟨i0, hi, hz0, hz1, hz2⟩ := info_parts Try.info33
  have hr0 := hide hr
  obtain ⟨hb, hg, hl, hf, hc, hn1⟩ := hr
  have h0 := hb.cell 0
  have h1 := hb.cell 1
  have h2 := hb.cell 2
  simp at h0 h1 h2
  clear hb hg hl
  go_enter Try.func22, Try.ntmps22
  go_wp2_with (first | (at_make; go_must (refine wpList_make_own _ rfl _ _ 34 rfl w.heap.size 33 i0 (.int .u64 0) 1 Try.underlying34 hi hz0 hz1 _ _ _ c rfl rfl rfl (by rw [hz2]; omega) (by unfold maxLen; omega) (by omega) ?_); intro w1 hown1 hg1; have ho1 : Only [] w w1 := (Only.refl [] w).grown hg1 (fun _ h => by cases h); have hr1 := hr0.out.only ho1 (by simp) (by simp); have k2 := hr1.1.cell 2; simp at k2; have HR1 := hide hr1; have HO1 := hide ho1; have HW1 := hide hown1; clear h0 h1 h2 hg1 ho1 hr1 hown1))
  go_loopw [3, 4, 16] (fun v u i wr => ∃ k : Nat, k ≤ c ∧ i = .int .i64 k ∧ Hid (wr.ownsRow w.heap.size 33 1 v k (ints .u64 (ringL xs n f k))) ∧ Hid (Only [] w wr)) (fun _ _ i _ => c - (intOf i).toNat)
  case atStart => exact ⟨0, Nat.zero_le _, rfl, hide HW1.out, HO1⟩
  case round =>
    obtain ⟨k, hk, rfl, hown, ho⟩ := hrel
    rcases Nat.lt_or_ge k c with hlt | hge
    case inr =>
      have hkc : k = c := by omega
      have hi : ¬ (k : Int) < c := by omega
      have HK := hide hkc
      clear hkc hge
      go_wp2
      go_ret
      exact ⟨_, rfl, by rw [← HK.out]; exact hown.out, ho.out⟩
    case inl =>
      have hi' : (k : Int) < c := by omega
      have hrk := hr0.out.only ho.out (by simp) (by simp)
      have hq : (f + k) % n < n := Nat.mod_lt _ (by omega)
      have hx : xs[(f + k) % n]? = some (xs.getD ((f + k) % n) 0) := by
        rw [List.getD_eq_getElem?_getD, List.getElem?_eq_getElem (by rw [hrk.2.2.1]; exact hq)]; rfl
      have hsn := hide (ringL_succ xs n f k)
      generalize hxx : xs.getD ((f + k) % n) 0 = x at hx hsn
      generalize hqq : (f + k) % n = q at hx hq hsn
      have EQ := hide (show ((f : Int) + (k : Int)) % n = (q : Int) by rw [← hqq]; push_cast; rfl)
      have hcx := cell_int hrk.2.1 hx
      have h0 := hrk.1.cell 0
      have h1 := hrk.1.cell 1
      simp at h0 h1
      have bz := hrk.1.lt
      have gz := hrk.2.1.lt
      have hq' : (q : Int) < n := by omega
      have al := al_
      have hsz : w.heap.size ≤ wr.heap.size := ho.out.size
      clear hrk hx hxx hqq
      go_wp2_with fail
      go_region_law (first
        | (go_simp; go_at_call 35; refine (ring_at b n (some ⟨g, 0, none⟩) f k _ ?_ ?_ (by omega) (by omega) (by omega) (by omega) (by omega) (by omega)).mono ?_; (go_simp); (go_simp); rw [EQ.out]; rintro e w' ⟨rfl, m, rfl⟩)
        | (refine step_append_lies _ rfl _ _ 34 rfl w.heap.size 33 i0 (.int .u64 0) 1 8 Try.underlying34 hi hz0 hz1 hz2 rfl (by decide) _ k _ rfl (hown.out.alloc (.cells #[.int .u64 x] 33)) ⟨wr.heap.size, 0, none⟩ 1 1 [.int .u64 x] rfl rfl (cell_one_new _ _ _) (by simp [Value.oneCell']) (by omega) (by unfold maxLen; omega) (by omega) (by simp; omega) _ rfl ?_; intro g2 cap2 w2 hown2 hg2 _ _))
      all_goals
        have hres : w2.ownsRow w.heap.size 33 1 (.slice (some ⟨g2, 0, none⟩) (k + 1) cap2) (k + 1) (ints .u64 (ringL xs n f (k + 1))) := by
          rw [hsn.out, ← ints_snoc]; exact hown2
        have hon : Only [] w w2 := ((ho.out.drewN _).alloc _).grown hg2 (fun j hj => .inr (own_block_ge hown.out hj))
        have HRES := hide hres
        have HON := hide hon
        clear hown2 hg2 hres hon
        go_wp2_with fail
        go_roundw
        case rel => exact ⟨k + 1, by omega, by go_num, HRES, HON⟩
        case measure => simp [intOf]; omega

theorem ref_push_fits (w : World) (N : List Nat) (v : Value) (xs : List Int) (room : Nat) (x : Int) (hv : Rd w N v (ints .u64 xs)) (hl : xs.length + 1 ≤ room) (hr : room ≤ 4096) :
    Calls Try.prog 14 #[v, .int .i64 room, .int .u64 x] w fun e w' => ∃ v', e = .returned (.tuple #[v', .int .u64 0, .bool false]) ∧ w'.ownsRow w.heap.size 33 1 v' (xs.length + 1) (ints .u64 (xs ++ [x])) ∧ Only [] w w' := by
  obtain ⟨i0, hi, hz0, hz1, hz2⟩ := info_parts Try.info33
  obtain ⟨A, cap, rfl, hc, hm⟩ := hv.form
  rw [ints_length] at hc hv ⊢
  have hrd := hide hv.reads
  obtain ⟨n, hn⟩ : ∃ n, n = xs.length := ⟨_, rfl⟩
  have HN := hide hn
  rw [← hn] at hc hrd hl ⊢
  unfold maxLen at hm
  clear hv hn
  go_enter Try.func14, Try.ntmps14
  go_wp2_with (first
    | (at_builtin; refine wpList_append_any _ rfl (.tmp 10) (.tmp 11) 34 rfl w.heap.size 33 i0 (.int .u64 0) 1 8 Try.underlying34 hi hz0 hz1 hz2 rfl (by decide) _ 0 [] rfl (own_empty w _ _ (Nat.le_refl _)) w.heap.size A n cap (ints .u64 xs) rfl (hrd.out.alloc (Nat.le_refl _) _) (ints_one _ _) (by unfold maxLen; omega) (by omega) (by simp) ?_; intro v1 w1 hown1 hg1 _; have HOWN1 := hide hown1; have ho1 := hide (((Only.refl [] w).alloc _).grown hg1 (fun j hj => .inr (own_block_ge (own_empty w 33 _ (Nat.le_refl _)) hj))); clear hown1 hg1)
    | (at_builtin; refine wpList_append_any _ rfl (.tmp 12) (.tmp 14) 34 rfl w.heap.size 33 i0 (.int .u64 0) 1 8 Try.underlying34 hi hz0 hz1 hz2 rfl (by decide) _ (0 + n) _ rfl (HOWN1.out.alloc _) (w1.heap.size + 1) (some ⟨w1.heap.size, 0, none⟩) 1 1 [.int .u64 x] rfl (reads_one _ _ _ _ (by omega)) (by simp [Value.oneCell']) (by unfold maxLen; omega) (by omega) (by have := ho1.out.size; simp; omega) ?_; intro v2 w2 hown2 hg2 _; have HR2 := hide (show w2.ownsRow w.heap.size 33 1 v2 (n + 1) (ints .u64 (xs ++ [x])) by rw [← ints_snoc, show n + 1 = 0 + n + 1 by omega]; exact hown2); have HO2 := hide ((ho1.out.alloc _).grown hg2 (fun j hj => .inr (own_block_ge HOWN1.out hj))); clear hown2 hg2; obtain ⟨A2, c2, rfl, hc2, hm2⟩ := own_form HR2.out; unfold maxLen at hm2))
  go_wp2_with fail
  go_ret3
  exact ⟨_, rfl, HR2.out, HO2.out⟩

theorem ref_push_full (w : World) (N : List Nat) (v : Value) (xs : List Int) (room : Nat) (x : Int) (hv : Rd w N v (ints .u64 xs)) (y : Int) (ys : List Int) (hy : xs = y :: ys) (hN : ∀ z ∈ N, z < w.heap.size) (hl : xs.length = room) (hr : room ≤ 4096) :
    Calls Try.prog 14 #[v, .int .i64 room, .int .u64 x] w fun e w' => ∃ v', e = .returned (.tuple #[v', .int .u64 y, .bool true]) ∧ Rd w' N v' (ints .u64 (ys ++ [x])) ∧ Only [] w w' := by
  obtain ⟨i0, hi, hz0, hz1, hz2⟩ := info_parts Try.info33
  obtain ⟨A, cap, rfl, hc, hm⟩ := hv.form
  rw [ints_length] at hc hv ⊢
  have hrd := hide hv.reads
  obtain ⟨n, hn⟩ : ∃ n, n = xs.length := ⟨_, rfl⟩
  have HN := hide hn
  rw [← hn] at hc hrd hl ⊢
  unfold maxLen at hm
  have HL := hide hl
  have hl' : n ≤ 4096 := by omega
  have HY := hide hy
  have hlt : (room : Int) < n + 1 := by omega
  clear hv hn hl hy
  go_enter Try.func14, Try.ntmps14
  go_wp2_with (first
    | (at_builtin; refine wpList_append_any _ rfl (.tmp 10) (.tmp 11) 34 rfl w.heap.size 33 i0 (.int .u64 0) 1 8 Try.underlying34 hi hz0 hz1 hz2 rfl (by decide) _ 0 [] rfl (own_empty w _ _ (Nat.le_refl _)) w.heap.size A n cap (ints .u64 xs) rfl (hrd.out.alloc (Nat.le_refl _) _) (ints_one _ _) (by unfold maxLen; omega) (by omega) (by simp) ?_; intro v1 w1 hown1 hg1 _; have HOWN1 := hide hown1; have ho1 := hide (((Only.refl [] w).alloc _).grown hg1 (fun j hj => .inr (own_block_ge (own_empty w 33 _ (Nat.le_refl _)) hj))); clear hown1 hg1)
    | (at_builtin; refine wpList_append_any _ rfl (.tmp 12) (.tmp 14) 34 rfl w.heap.size 33 i0 (.int .u64 0) 1 8 Try.underlying34 hi hz0 hz1 hz2 rfl (by decide) _ (0 + n) _ rfl (HOWN1.out.alloc _) (w1.heap.size + 1) (some ⟨w1.heap.size, 0, none⟩) 1 1 [.int .u64 x] rfl (reads_one _ _ _ _ (by omega)) (by simp [Value.oneCell']) (by unfold maxLen; omega) (by omega) (by have := ho1.out.size; simp; omega) ?_; intro v2 w2 hown2 hg2 _; have HR2 := hide (show w2.ownsRow w.heap.size 33 1 v2 (n + 1) (ints .u64 (xs ++ [x])) by rw [← ints_snoc, show n + 1 = 0 + n + 1 by omega]; exact hown2); have HO2 := hide ((ho1.out.alloc _).grown hg2 (fun j hj => .inr (own_block_ge HOWN1.out hj))); clear hown2 hg2; obtain ⟨A2, c2, rfl, hc2, hm2⟩ := own_form HR2.out; unfold maxLen at hm2; have hrd2 : Rd w2 N (.slice A2 (n + 1) c2) (.int .u64 y :: ints .u64 (ys ++ [x])) := (by have h := (Rd.of_own HR2.out hN).1; rw [HY.out] at h; exact h); obtain ⟨g2, o2, rfl, _, _, hc0, hrt⟩ := hrd2.tail; have HRT := hide hrt; clear hrd2 hrt))
  have hc21 : c2 ≠ 1 := by
    have h1 := HN.out
    rw [HY.out, List.length_cons] at h1
    have h2 := ints_length .u64 (ys ++ [x])
    rw [List.length_append, List.length_singleton] at h2
    omega
  have ELN := hide (show n + 1 - 1 = (ints .u64 (ys ++ [x])).length by
    have h1 := HN.out
    rw [HY.out, List.length_cons] at h1
    have h2 := ints_length .u64 (ys ++ [x])
    rw [List.length_append, List.length_singleton] at h2
    omega)
  go_region
  all_goals
    go_wp2_with fail
    go_ret3
    exact ⟨_, rfl, by have h := HRT.out; rw [if_neg hc21, ELN.out] at h; exact h, HO2.out.drew⟩
end Go.Proofs.Ytokpdhcgclfmnaa

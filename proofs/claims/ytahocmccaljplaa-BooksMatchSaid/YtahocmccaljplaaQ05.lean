/-
  Walks and plain words (texts Bkb, Bkc). No condition beyond those that each theorem states.
-/
import Derived.Test.YtahocmccaljplaaQ04
namespace Go.Proofs.Ytahocmccaljplaa
section
open Go.RowKit Go.Deep Go.Maps Go.WideMaps

theorem own_empty5 (w : World) (e base : Nat) (hB : base ≤ w.heap.size) : (w.alloc (.cells #[] e)).ownsRow base e 5 (.slice (some ⟨w.heap.size, 0, none⟩) 0 0) 0 [] :=
  ⟨rfl, .inr ⟨w.heap.size, 0, #[], rfl, hB, heap_alloc_new w _, Nat.le_refl _, Nat.zero_le _, rfl, rfl⟩⟩
theorem reads_five (w : World) (e : TypeId) (cs : Array Value) (B : Nat) (hx : cs.size = 5) (hB : w.heap.size < B) : Reads (w.alloc (.cells cs e)) B 5 (some ⟨w.heap.size, 0, none⟩) 1 cs.toList :=
  ⟨by rw [Array.length_toList, hx], fun _ => ⟨_, rfl, hB, fun j u hu => by rw [add_mk, Nat.zero_add, (Blk.new w e cs).cell]; simpa using hu⟩⟩
def AsPost (L : List (Rc × Value)) (w : World) (e : Ending) (w' : World) : Prop := ∃ v, e = .returned v ∧ RdS 5 rkC w' [] v L ∧ Only [] w w'
set_option maxRecDepth 100000 in
set_option maxHeartbeats 12800000 in
theorem as_any (w : World) (A : Option Addr) (cap : Nat) (L : List (Rc × Value)) (hL : RdS 5 rkC w [] (.slice A L.length cap) L) (hfit : ∀ r ∈ L, RkFit w r) (hl : L.length ≤ 60) :
    Calls Try.prog 5 #[.slice A L.length cap] w (AsPost L w) := by
  obtain ⟨n, hn⟩ : ∃ n, n = L.length := ⟨_, rfl⟩
  have HN := hide hn
  rw [← hn] at hL hl ⊢
  have HL := hide hL
  have HFIT := hide hfit
  have HOE := hide (own_empty5 w 40 w.heap.size (Nat.le_refl _))
  have HO0 := hide ((Only.refl [] w).alloc (.cells #[] 40))
  obtain ⟨i0, hi0, hz0, hz1, hz2⟩ := info_parts (show (Try.prog.info? 40).map (fun i => (i.zero, i.size, i.bytes)) = some (some (.agg #[.int .i64 0, .int .i64 0, .int .i64 0, .slice none 0 0, .int .i64 0]), 5, 56) by kernel_rfl)
  clear hL hfit hn
  go_enter Try.func5, Try.ntmps5
  go_wp2_with fail
  obtain ⟨B, hB⟩ : ∃ B, B = w.heap.size := ⟨_, rfl⟩
  generalize (w.alloc (.cells #[] 40)) = w1 at *
  rw [← hB] at HOE ⊢
  have HB := hide hB
  clear hB
  go_loopw [4, 3] (fun iv pv wr => ∃ i : Nat, i ≤ n ∧ iv = .int .i64 i ∧ Hid (wr.ownsRow B 40 5 pv i ((L.take i).flatMap rkC)) ∧ Hid (Only [] w wr)) (fun iv _ _ => n - (intOf iv).toNat)
  case atStart => exact ⟨0, Nat.zero_le _, rfl, HOE, HO0⟩
  case round =>
    obtain ⟨i, hin, rfl, HP, HO⟩ := hrel
    by_cases hi : i < n
    case neg =>
      obtain rfl : i = n := by omega
      have hnI : ¬ (i : Int) < (i : Int) := by omega
      go_wp2_with fail
      go_ret
      have h := HP.out
      rw [HN.out, List.take_length] at h
      exact ⟨_, rfl, (RdS.of_own rkC_len (by omega) h (by simp)).1, HO.out⟩
    case pos =>
      have hiI : (i : Int) < (n : Int) := by omega
      obtain ⟨r, hr⟩ : ∃ r, L[i]? = some r := ⟨_, List.getElem?_eq_getElem (by rw [← HN.out]; exact hi)⟩
      obtain ⟨⟨k, a, p, b, nw⟩, v⟩ := r
      obtain ⟨g, o, hA, _, hglt⟩ := HL.out.addr (by have := HN.out; omega)
      subst hA
      obtain ⟨hrd, -⟩ := HFIT.out _ (List.mem_of_getElem? hr)
      simp only at hrd
      obtain ⟨Av, cv, rfl, _, _⟩ := hrd.formb
      have HG5 := hide (fun W (h : Only [] w W) => rec_get hr (HL.out.only h (by simp)))
      obtain ⟨nb, hnb⟩ : ∃ q, q = b.length := ⟨_, rfl⟩
      rw [← hnb] at HG5
      have HTK := hide (show (L.take (i + 1)).flatMap rkC = (L.take i).flatMap rkC ++ [.int .i64 k, .int .i64 a, .int .i64 p, .slice Av nb cv, .int .i64 nw] by rw [List.take_add_one, hr, List.flatMap_append, hnb]; rfl)
      clear hrd hr hnb
      go_upto_region 5 with fail
      have HPD := hide (show wr.drew.ownsRow B _ 5 _ i _ from HP.out)
      have HSB := hide (show B ≤ wr.drew.heap.size from by rw [HB.out]; exact HO.out.size)
      have HOD := hide (HO.out.drew)
      refine wp_region_held_drew (S := fun W => Only [] w W) (by kernel_rfl) (by exact HO.out.drew) (fun hHeld => ?_)
      generalize wr.drew = wd at *
      refine wpAnyH_take (i := 0) (v := ?_) rfl (by kernel_rfl) (by kernel_rfl) (by kernel_rfl) (fun _ _ _ h => h) (Or.inl ⟨by rfl, ?_⟩) (by assumption) ?_
      rotate_left
      · (intro wq hSw; (try dsimp only at hSw); go_simp; try with_reducible rfl)
      try simp only [List.getElem_toArray, List.getElem_cons_succ, List.getElem_cons_zero, Act.put, List.setIfInBounds_toArray, List.set_cons_zero, List.set_cons_succ]
      refine wpAnyH_take (i := 1) (v := ?_) rfl (by kernel_rfl) (by kernel_rfl) (by kernel_rfl) (fun _ _ _ h => h) (Or.inl ⟨by rfl, ?_⟩) (by assumption) ?_
      rotate_left
      · (intro wq hSw; (try dsimp only at hSw); go_simp; try with_reducible rfl)
      try simp only [List.getElem_toArray, List.getElem_cons_succ, List.getElem_cons_zero, Act.put, List.setIfInBounds_toArray, List.set_cons_zero, List.set_cons_succ]
      refine wpAnyH_take (i := 2) (v := ?_) rfl (by kernel_rfl) (by kernel_rfl) (by kernel_rfl) (fun _ _ _ h => h) (Or.inl ⟨by rfl, ?_⟩) (by assumption) ?_
      rotate_left
      · (intro wq hSw; (try dsimp only at hSw); go_simp; try with_reducible rfl)
      try simp only [List.getElem_toArray, List.getElem_cons_succ, List.getElem_cons_zero, Act.put, List.setIfInBounds_toArray, List.set_cons_zero, List.set_cons_succ]
      refine wpAnyH_take (i := 3) (v := ?_) rfl (by kernel_rfl) (by kernel_rfl) (by kernel_rfl) (fun _ _ _ h => h) (Or.inl ⟨by rfl, ?_⟩) (by assumption) ?_
      rotate_left
      · (intro wq hSw; (try dsimp only at hSw); go_simp; try with_reducible rfl)
      try simp only [List.getElem_toArray, List.getElem_cons_succ, List.getElem_cons_zero, Act.put, List.setIfInBounds_toArray, List.set_cons_zero, List.set_cons_succ]
      refine wpAnyH_take (i := 4) (v := ?_) rfl (by kernel_rfl) (by kernel_rfl) (by kernel_rfl) (fun _ _ _ h => h) (Or.inl ⟨by rfl, ?_⟩) (by assumption) ?_
      rotate_left
      · (intro wq hSw; (try dsimp only at hSw); go_simp; try with_reducible rfl)
      try simp only [List.getElem_toArray, List.getElem_cons_succ, List.getElem_cons_zero, Act.put, List.setIfInBounds_toArray, List.set_cons_zero, List.set_cons_succ]
      refine wpAnyH_take (i := 5) (v := ?_) rfl (by kernel_rfl) (by kernel_rfl) (by kernel_rfl) (fun _ _ _ h => h) (Or.inl ⟨by rfl, ?_⟩) (by assumption) ?_
      rotate_left
      · (intro wq hSw; (try dsimp only at hSw); obtain ⟨c0, c1, c2, c3, c4⟩ := HG5.out _ hSw; simp only at c0 c1 c2 c3 c4; go_simp; try with_reducible rfl)
      try simp only [List.getElem_toArray, List.getElem_cons_succ, List.getElem_cons_zero, Act.put, List.setIfInBounds_toArray, List.set_cons_zero, List.set_cons_succ]
      refine wpAnyH_take (i := 6) (v := ?_) rfl (by kernel_rfl) (by kernel_rfl) (by kernel_rfl) (fun _ _ _ h => h) (Or.inl ⟨by rfl, ?_⟩) (by assumption) ?_
      rotate_left
      · (intro wq hSw; (try dsimp only at hSw); go_simp; try with_reducible rfl)
      try simp only [List.getElem_toArray, List.getElem_cons_succ, List.getElem_cons_zero, Act.put, List.setIfInBounds_toArray, List.set_cons_zero, List.set_cons_succ]
      refine wpAnyH_take (i := 7) (v := ?_) rfl (by kernel_rfl) (by kernel_rfl) (by kernel_rfl) (fun _ _ _ h => h) (Or.inl ⟨by rfl, ?_⟩) (by assumption) ?_
      rotate_left
      · (intro wq hSw; (try dsimp only at hSw); go_simp; try with_reducible rfl)
      try simp only [List.getElem_toArray, List.getElem_cons_succ, List.getElem_cons_zero, Act.put, List.setIfInBounds_toArray, List.set_cons_zero, List.set_cons_succ]
      refine wpAnyH_take (i := 8) (v := ?_) rfl (by kernel_rfl) (by kernel_rfl) (by kernel_rfl) (fun _ _ _ h => h) (Or.inl ⟨by rfl, ?_⟩) (by assumption) ?_
      rotate_left
      · (intro wq hSw; (try dsimp only at hSw); go_simp; try with_reducible rfl)
      try simp only [List.getElem_toArray, List.getElem_cons_succ, List.getElem_cons_zero, Act.put, List.setIfInBounds_toArray, List.set_cons_zero, List.set_cons_succ]
      refine wpAnyH_take (i := 9) (v := ?_) rfl (by kernel_rfl) (by kernel_rfl) (by kernel_rfl) (fun _ _ _ h => h) (Or.inl ⟨by rfl, ?_⟩) (by assumption) ?_
      rotate_left
      · (intro wq hSw; (try dsimp only at hSw); go_simp; try with_reducible rfl)
      try simp only [List.getElem_toArray, List.getElem_cons_succ, List.getElem_cons_zero, Act.put, List.setIfInBounds_toArray, List.set_cons_zero, List.set_cons_succ]
      refine wpAnyH_take (i := 10) (v := ?_) rfl (by kernel_rfl) (by kernel_rfl) (by kernel_rfl) (fun _ _ _ h => h) (Or.inl ⟨by rfl, ?_⟩) (by assumption) ?_
      rotate_left
      · (intro wq hSw; (try dsimp only at hSw); obtain ⟨c0, c1, c2, c3, c4⟩ := HG5.out _ hSw; simp only at c0 c1 c2 c3 c4; go_simp; try with_reducible rfl)
      try simp only [List.getElem_toArray, List.getElem_cons_succ, List.getElem_cons_zero, Act.put, List.setIfInBounds_toArray, List.set_cons_zero, List.set_cons_succ]
      refine wpAnyH_take (i := 11) (v := ?_) rfl (by kernel_rfl) (by kernel_rfl) (by kernel_rfl) (fun _ _ _ h => h) (Or.inl ⟨by rfl, ?_⟩) (by assumption) ?_
      rotate_left
      · (intro wq hSw; (try dsimp only at hSw); go_simp; try with_reducible rfl)
      try simp only [List.getElem_toArray, List.getElem_cons_succ, List.getElem_cons_zero, Act.put, List.setIfInBounds_toArray, List.set_cons_zero, List.set_cons_succ]
      refine wpAnyH_take (i := 12) (v := ?_) rfl (by kernel_rfl) (by kernel_rfl) (by kernel_rfl) (fun _ _ _ h => h) (Or.inl ⟨by rfl, ?_⟩) (by assumption) ?_
      rotate_left
      · (intro wq hSw; (try dsimp only at hSw); go_simp; try with_reducible rfl)
      try simp only [List.getElem_toArray, List.getElem_cons_succ, List.getElem_cons_zero, Act.put, List.setIfInBounds_toArray, List.set_cons_zero, List.set_cons_succ]
      refine wpAnyH_take (i := 13) (v := ?_) rfl (by kernel_rfl) (by kernel_rfl) (by kernel_rfl) (fun _ _ _ h => h) (Or.inl ⟨by rfl, ?_⟩) (by assumption) ?_
      rotate_left
      · (intro wq hSw; (try dsimp only at hSw); go_simp; try with_reducible rfl)
      try simp only [List.getElem_toArray, List.getElem_cons_succ, List.getElem_cons_zero, Act.put, List.setIfInBounds_toArray, List.set_cons_zero, List.set_cons_succ]
      refine wpAnyH_take (i := 14) (v := ?_) rfl (by kernel_rfl) (by kernel_rfl) (by kernel_rfl) (fun _ _ _ h => h) (Or.inl ⟨by rfl, ?_⟩) (by assumption) ?_
      rotate_left
      · (intro wq hSw; (try dsimp only at hSw); go_simp; try with_reducible rfl)
      try simp only [List.getElem_toArray, List.getElem_cons_succ, List.getElem_cons_zero, Act.put, List.setIfInBounds_toArray, List.set_cons_zero, List.set_cons_succ]
      refine wpAnyH_take (i := 15) (v := ?_) rfl (by kernel_rfl) (by kernel_rfl) (by kernel_rfl) (fun _ _ _ h => h) (Or.inl ⟨by rfl, ?_⟩) (by assumption) ?_
      rotate_left
      · (intro wq hSw; (try dsimp only at hSw); obtain ⟨c0, c1, c2, c3, c4⟩ := HG5.out _ hSw; simp only at c0 c1 c2 c3 c4; go_simp; try with_reducible rfl)
      try simp only [List.getElem_toArray, List.getElem_cons_succ, List.getElem_cons_zero, Act.put, List.setIfInBounds_toArray, List.set_cons_zero, List.set_cons_succ]
      refine wpAnyH_take (i := 16) (v := ?_) rfl (by kernel_rfl) (by kernel_rfl) (by kernel_rfl) (fun _ _ _ h => h) (Or.inl ⟨by rfl, ?_⟩) (by assumption) ?_
      rotate_left
      · (intro wq hSw; (try dsimp only at hSw); go_simp; try with_reducible rfl)
      try simp only [List.getElem_toArray, List.getElem_cons_succ, List.getElem_cons_zero, Act.put, List.setIfInBounds_toArray, List.set_cons_zero, List.set_cons_succ]
      refine wpAnyH_take (i := 17) (v := ?_) rfl (by kernel_rfl) (by kernel_rfl) (by kernel_rfl) (fun _ _ _ h => h) (Or.inl ⟨by rfl, ?_⟩) (by assumption) ?_
      rotate_left
      · (intro wq hSw; (try dsimp only at hSw); go_simp; try with_reducible rfl)
      try simp only [List.getElem_toArray, List.getElem_cons_succ, List.getElem_cons_zero, Act.put, List.setIfInBounds_toArray, List.set_cons_zero, List.set_cons_succ]
      refine wpAnyH_take (i := 18) (v := ?_) rfl (by kernel_rfl) (by kernel_rfl) (by kernel_rfl) (fun _ _ _ h => h) (Or.inl ⟨by rfl, ?_⟩) (by assumption) ?_
      rotate_left
      · (intro wq hSw; (try dsimp only at hSw); go_simp; try with_reducible rfl)
      try simp only [List.getElem_toArray, List.getElem_cons_succ, List.getElem_cons_zero, Act.put, List.setIfInBounds_toArray, List.set_cons_zero, List.set_cons_succ]
      refine wpAnyH_take (i := 19) (v := ?_) rfl (by kernel_rfl) (by kernel_rfl) (by kernel_rfl) (fun _ _ _ h => h) (Or.inl ⟨by rfl, ?_⟩) (by assumption) ?_
      rotate_left
      · (intro wq hSw; (try dsimp only at hSw); go_simp; try with_reducible rfl)
      try simp only [List.getElem_toArray, List.getElem_cons_succ, List.getElem_cons_zero, Act.put, List.setIfInBounds_toArray, List.set_cons_zero, List.set_cons_succ]
      refine wpAnyH_take (i := 20) (v := ?_) rfl (by kernel_rfl) (by kernel_rfl) (by kernel_rfl) (fun _ _ _ h => h) (Or.inl ⟨by rfl, ?_⟩) (by assumption) ?_
      rotate_left
      · (intro wq hSw; (try dsimp only at hSw); obtain ⟨c0, c1, c2, c3, c4⟩ := HG5.out _ hSw; simp only at c0 c1 c2 c3 c4; go_simp; try with_reducible rfl)
      try simp only [List.getElem_toArray, List.getElem_cons_succ, List.getElem_cons_zero, Act.put, List.setIfInBounds_toArray, List.set_cons_zero, List.set_cons_succ]
      refine wpAnyH_take (i := 21) (v := ?_) rfl (by kernel_rfl) (by kernel_rfl) (by kernel_rfl) (fun _ _ _ h => h) (Or.inl ⟨by rfl, ?_⟩) (by assumption) ?_
      rotate_left
      · (intro wq hSw; (try dsimp only at hSw); go_simp; try with_reducible rfl)
      try simp only [List.getElem_toArray, List.getElem_cons_succ, List.getElem_cons_zero, Act.put, List.setIfInBounds_toArray, List.set_cons_zero, List.set_cons_succ]
      refine wpAnyH_take (i := 22) (v := ?_) rfl (by kernel_rfl) (by kernel_rfl) (by kernel_rfl) (fun _ _ _ h => h) (Or.inl ⟨by rfl, ?_⟩) (by assumption) ?_
      rotate_left
      · (intro wq hSw; (try dsimp only at hSw); go_simp; try with_reducible rfl)
      try simp only [List.getElem_toArray, List.getElem_cons_succ, List.getElem_cons_zero, Act.put, List.setIfInBounds_toArray, List.set_cons_zero, List.set_cons_succ]
      refine wpAnyH_take (i := 23) (v := ?_) rfl (by kernel_rfl) (by kernel_rfl) (by kernel_rfl) (fun _ _ _ h => h) (Or.inl ⟨by rfl, ?_⟩) (by assumption) ?_
      rotate_left
      · (intro wq hSw; (try dsimp only at hSw); go_simp; try with_reducible rfl)
      try simp only [List.getElem_toArray, List.getElem_cons_succ, List.getElem_cons_zero, Act.put, List.setIfInBounds_toArray, List.set_cons_zero, List.set_cons_succ]
      refine wpAnyH_take (i := 24) (v := ?_) rfl (by kernel_rfl) (by kernel_rfl) (by kernel_rfl) (fun _ _ _ h => h) (Or.inl ⟨by rfl, ?_⟩) (by assumption) ?_
      rotate_left
      · (intro wq hSw; (try dsimp only at hSw); go_simp; try with_reducible rfl)
      try simp only [List.getElem_toArray, List.getElem_cons_succ, List.getElem_cons_zero, Act.put, List.setIfInBounds_toArray, List.set_cons_zero, List.set_cons_succ]
      refine wpAnyH_take (i := 25) (v := ?_) rfl (by kernel_rfl) (by kernel_rfl) (by kernel_rfl) (fun _ _ _ h => h) (Or.inl ⟨by rfl, ?_⟩) (by assumption) ?_
      rotate_left
      · (intro wq hSw; (try dsimp only at hSw); obtain ⟨c0, c1, c2, c3, c4⟩ := HG5.out _ hSw; simp only at c0 c1 c2 c3 c4; go_simp; try with_reducible rfl)
      try simp only [List.getElem_toArray, List.getElem_cons_succ, List.getElem_cons_zero, Act.put, List.setIfInBounds_toArray, List.set_cons_zero, List.set_cons_succ]
      refine wpAnyH_take (i := 26) (v := ?_) rfl (by kernel_rfl) (by kernel_rfl) (by kernel_rfl) (fun _ _ _ h => h) (Or.inl ⟨by rfl, ?_⟩) (by assumption) ?_
      rotate_left
      · (intro wq hSw; (try dsimp only at hSw); go_simp; try with_reducible rfl)
      try simp only [List.getElem_toArray, List.getElem_cons_succ, List.getElem_cons_zero, Act.put, List.setIfInBounds_toArray, List.set_cons_zero, List.set_cons_succ]
      refine wpAnyH_ready (rs := [27]) (by kernel_rfl) (by simp) ?_
      refine (AllReadyH.cons rfl (fun K hK => ?_) AllReadyH.nil)
      go_simp
      refine hK.out _ _ (by exact hHeld.alloc _) (fun hN => ?_)
      clear hK K hHeld
      have hHeld := hN
      clear hN
      try simp only [List.getElem_toArray, List.getElem_cons_succ, List.getElem_cons_zero, Act.put, List.setIfInBounds_toArray, List.set_cons_zero, List.set_cons_succ]
      have HOE2 := hide (HPD.out.alloc (.cells #[.int .i64 k, .int .i64 a, .int .i64 p, .slice Av nb cv, .int .i64 nw] 40))
      have HRR := hide (reads_five wd 40 #[.int .i64 k, .int .i64 a, .int .i64 p, .slice Av nb cv, .int .i64 nw] (wd.heap.size + 1) rfl (Nat.lt_succ_self _))
      refine wpAnyH_ready (rs := [28]) (by kernel_rfl) (by simp) ?_
      refine (AllReadyH.cons rfl (fun K hK => ?_) AllReadyH.nil)
      rw [if_pos (by rfl)]
      refine wp_append_any (P := Try.prog) _ (.tmp 12) (.tmp 39) 27 rfl B 40 i0 (.agg #[.int .i64 0, .int .i64 0, .int .i64 0, .slice none 0 0, .int .i64 0]) 5 56 Try.underlying27 hi0 hz0 hz1 hz2 rfl (by decide) _ i _ rfl HOE2.out (wd.heap.size + 1) (some ⟨wd.heap.size, 0, none⟩) 1 1 #[.int .i64 k, .int .i64 a, .int .i64 p, .slice Av nb cv, .int .i64 nw].toList rfl HRR.out (by simp [Value.oneCell']) (by unfold maxLen; omega) (by omega) (by have := HSB.out; rw [World.size_alloc]; omega) (fun v6 w6 h1 h2 h3 => ?_)
      have HO6 := hide (show Only [] w w6 from hHeld.grown h2 (fun q hq => .inr (by have := own_block_ge HOE2.out hq; have h9 := HB.out; omega)))
      have H1 := hide h1
      clear h1 h2 h3
      refine hK.out _ _ (by exact HO6.out) (fun hN => ?_)
      clear hK K hHeld
      have hHeld := hN
      clear hN
      try simp only [List.getElem_toArray, List.getElem_cons_succ, List.getElem_cons_zero, Act.put, List.setIfInBounds_toArray, List.set_cons_zero, List.set_cons_succ]
      refine wpAnyH_take (i := 29) (v := ?_) rfl (by kernel_rfl) (by kernel_rfl) (by kernel_rfl) (fun _ _ _ h => h) (Or.inl ⟨by rfl, ?_⟩) (by assumption) ?_
      rotate_left
      · (intro wq hSw; (try dsimp only at hSw); go_simp; try with_reducible rfl)
      try simp only [List.getElem_toArray, List.getElem_cons_succ, List.getElem_cons_zero, Act.put, List.setIfInBounds_toArray, List.set_cons_zero, List.set_cons_succ]
      refine wpAnyH_done (by kernel_rfl) ?_ _
      have H2 := hide (HTK.out ▸ H1.out : w6.ownsRow B 40 5 v6 (i + 1) ((L.take (i + 1)).flatMap rkC))
      have HO8 := HO6
      go_wp2_with fail
      exact ⟨⟨i + 1, by omega, congrArg (Value.int .i64) (by omega), H2, HO8⟩, by simp only [intOf]; omega⟩
end
section
open Go.RowKit Go.Deep Go.Maps Go.WideMaps

theorem int_cell {w : World} {N : List Nat} {A : Option Addr} {n c : Nat} {xs : List Int} (h : Rd w N (.slice A n c) (ints .i64 xs)) {i : Nat} (hi : i < xs.length) : ∃ g o, A = some ⟨g, o, none⟩ ∧ w.cell? ⟨g, o + i, none⟩ = some (.int .i64 (xs.getD i 0)) := by
  obtain ⟨_, _, _, h2⟩ := h.at_
  obtain ⟨g, o, hA, _, _, hc⟩ := h2 i (.int .i64 (xs.getD i 0)) (by simp [ints, List.getElem?_eq_getElem hi, List.getD_eq_getElem?_getD])
  exact ⟨g, o, hA, hc⟩
set_option maxRecDepth 100000 in
set_option maxHeartbeats 6400000 in
theorem same_ints (w : World) (v u : Value) (xs : List Int) (hv : Rd w [] v (ints .i64 xs)) (hu : Rd w [] u (ints .i64 xs)) (hl : xs.length ≤ 1000) : Calls Try.prog 8 #[v, u] w (RetB true w) := by
  obtain ⟨A, c, rfl, _, _⟩ := hv.formi
  obtain ⟨A2, c2, rfl, _, _⟩ := hu.formi
  obtain ⟨n, hn⟩ : ∃ n, n = xs.length := ⟨_, rfl⟩
  rw [← hn] at hv hu hl ⊢
  have HV := hide hv
  have HU := hide hu
  have HN := hide hn
  have t0 : ((n : Int) != (n : Int)) = false := by simp
  clear hv hu hn
  go_enter Try.func8, Try.ntmps8
  go_wp2_with fail
  go_loopw [5] (fun iv wr => ∃ i : Nat, i ≤ n ∧ iv = .int .i64 i ∧ Hid (Only [] w wr)) (fun iv _ => n - (intOf iv).toNat)
  case atStart => exact ⟨0, Nat.zero_le _, rfl, hide (Only.refl _ _)⟩
  case round =>
    obtain ⟨i, hin, rfl, HO⟩ := hrel
    by_cases hi : i < n
    case neg =>
      obtain rfl : i = n := by omega
      have hnI : ¬ (i : Int) < (i : Int) := by omega
      go_wp2_with fail
      go_ret
      exact ⟨rfl, HO.out⟩
    case pos =>
      have hiI : (i : Int) < (n : Int) := by omega
      obtain ⟨g, o, hA, ca⟩ := int_cell (HV.out.only HO.out (by simp)) (show i < xs.length by rw [← HN.out]; exact hi)
      obtain ⟨g2, o2, hA2, cb⟩ := int_cell (HU.out.only HO.out (by simp)) (show i < xs.length by rw [← HN.out]; exact hi)
      subst hA hA2
      generalize xs.getD i 0 = x at *
      have t1 : (x != x) = false := by simp
      go_upto_region 6 with fail
      go_quiet (fail)
      replace HO := hide (HO.out.drewN nq)
      go_wp2_with fail
      exact ⟨⟨i + 1, by omega, congrArg (Value.int .i64) (by omega), HO⟩, by simp only [intOf]; omega⟩
end
end Go.Proofs.Ytahocmccaljplaa

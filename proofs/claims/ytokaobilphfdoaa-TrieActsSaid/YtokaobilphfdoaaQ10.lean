/-
  Walks and plain words (texts Tx2). No condition beyond those that each theorem states.
-/
import Derived.Test.YtokaobilphfdoaaQ09
namespace Go.Proofs.Ytokaobilphfdoaa
section
open Go.RowKit Go.Deep

def DelRPost (N : List Nat) (l : List Rw) (p : List UInt8 × Nat) (w : World) (e : Ending) (w' : World) : Prop := ∃ v', e = .returned (.tuple #[v', .bool (wasV l p)]) ∧ RowsRd 3 rowC w' N v' (delV l p) ∧ Only [] w w'
theorem rows_forms {w : World} {N : List Nat} {ps : List PRw} (h : ∀ p ∈ ps, Rd w N p.1 (ints .u8 (byts p.2.1))) : ∀ p ∈ ps, ∃ A n c, p.1 = .slice A n c := fun p hp => by
  obtain ⟨A, c, e, _, _⟩ := (h p hp).formb
  exact ⟨A, _, c, e⟩
set_option maxRecDepth 100000 in
set_option maxHeartbeats 6400000 in
theorem refdel_any (v pv0 : Value) (l : List Rw) (pl : List UInt8) (pb : Nat) (N : List Nat) (w : World) (hv : RowsRd 3 rowC w N v l) (hp0 : Rd w N pv0 (ints .u8 (byts pl))) (hN : ∀ x ∈ N, x < w.heap.size) (hl : l.length ≤ 1000) :
    Calls Try.prog 10 #[v, .agg #[pv0, .int .i64 pb]] w (DelRPost N l (pl, pb) w) := by
  obtain ⟨i0, hi0, hz00, hz01, hz02⟩ := info_parts info_row8
  obtain ⟨ps, hps, hrd, hrows⟩ := hv
  obtain ⟨A, c, rfl, hnc, hcm⟩ := hrd.form
  obtain ⟨n, hn⟩ : ∃ n, n = ps.length := ⟨_, rfl⟩
  rw [← hn] at hrd hnc ⊢
  have HO := hide ((Only.refl [] w).alloc (.cells #[pv0, .int .i64 pb] 29))
  have HBX := hide (Blk.new w 29 #[pv0, .int .i64 pb])
  have HRD0 := hide (show RdS 3 rowC w [] (.slice A n c) ps from by
    obtain ⟨A', c', h1, h2, h3, h4⟩ := hrd
    exact ⟨A', c', h1, h2, h3, h4.imp id (fun ⟨g, o, e1, _, e2⟩ => ⟨g, o, e1, (by simp), e2⟩)⟩)
  have HRN := hide hrd
  have HROWS := hide hrows
  have HFORM := hide (rows_forms hrows)
  have HPS := hide hps
  have HN := hide hn
  have HNN := hide hN
  have HPV0 := hide (hp0.less (N' := []) (by simp))
  obtain ⟨B, cb, rfl, _, _⟩ := hp0.formb
  have HL1 := hide (show ps.length ≤ 1000 from by rw [← List.length_map (f := Prod.snd), hps]; exact hl)
  have HNC := hide hnc
  have hn1000 : n ≤ 1000 := by rw [hn]; exact HL1.out
  clear hp0 hps hrd hrows hN hl hcm hn
  go_enter Try.func10, Try.ntmps10
  go_upto_region 1 with (fail)
  have HRD := hide (HRD0.out.only HO.out (by simp))
  have HPV := hide (HPV0.out.only HO.out (by simp))
  generalize w.alloc (.cells #[.slice B pl.length cb, .int .i64 pb] 29) = w1 at *
  obtain ⟨G, hG⟩ : ∃ G, G = w.heap.size := ⟨_, rfl⟩
  rw [← hG] at HBX ⊢
  clear hG
  go_wp2_with fail
  go_loopw [6] (fun i wr => ∃ k : Nat, k ≤ n ∧ i = .int .i64 k ∧ Hid (∀ (j : Nat) (s : Rw), j < k → l[j]? = some s → pf s ≠ (pl, pb)) ∧ Hid (Only [] w1 wr)) (fun i _ => n - (intOf i).toNat)
  case atStart => exact ⟨0, Nat.zero_le _, rfl, hide (fun j s hj => absurd hj (Nat.not_lt_zero _)), hide (Only.refl [] w1)⟩
  case round =>
    obtain ⟨k, hk, rfl, HNO, HX⟩ := hrel
    by_cases hlt : k < n
    · have hltI : (k : Int) < (n : Int) := by omega
      obtain ⟨p, hp⟩ : ∃ p, ps[k]? = some p := ⟨_, List.getElem?_eq_getElem (by rw [← HN.out]; exact hlt)⟩
      obtain ⟨g, o, rfl, _, _⟩ := HRD.out.addr (by rw [← HN.out]; omega)
      have hlk : l[k]? = some p.2 := by rw [← HPS.out, List.getElem?_map, hp]; rfl
      have HLK := hide hlk
      have HPV2' := hide ((HROWS.out p (List.mem_of_getElem? hp)).less (N' := []) (by simp))
      obtain ⟨pv, pl2, pb2, px2⟩ := p
      simp only at HLK HPV2'
      have HPV2 := hide (HPV2'.out.only HO.out (by simp))
      obtain ⟨Ap, cp, rfl, _, _⟩ := HPV2'.out.formb
      have HKN := hide (show k + 1 ≤ n from hlt)
      have HWK := hide (show IntKind.i64.wrap ((k : Int) + 1) = (k : Int) + 1 from by rw [IntKind.wrap_i64]; have := HL1.out; have := HN.out; omega)
      have HK1 := hide (show (k : Int) + 1 ≤ (n : Int) from by omega)
      have HK0 := hide (show (0 : Int) ≤ (k : Int) + 1 from by omega)
      have HKK := hide (show ((k : Int) + 1).toNat = k + 1 from by omega)
      have HKC := hide (show k ≤ c from by omega)
      clear hlk
      go_upto_region 4 with (fail)
      refine wp_region_held_drew (S := fun W' => Only [] wr W') (by kernel_rfl) (by exact (Only.refl [] wr).drew) (fun hHeld => ?_)
      have HXd := hide (HX.out.drew)
      generalize wr.drew = wd4 at *
      refine wpAnyH_take (i := 0) (v := ?_) rfl (by kernel_rfl) (by kernel_rfl) (by kernel_rfl) (fun _ _ _ h => h) (Or.inl ⟨by rfl, ?_⟩) (by assumption) ?_
      rotate_left
      · (intro w hSw; (try dsimp only at hSw); go_simp; try with_reducible rfl)
      try simp only [List.getElem_toArray, List.getElem_cons_succ, List.getElem_cons_zero, Act.put, List.setIfInBounds_toArray, List.set_cons_zero, List.set_cons_succ]
      refine wpAnyH_take (i := 1) (v := ?_) rfl (by kernel_rfl) (by kernel_rfl) (by kernel_rfl) (fun _ _ _ h => h) (Or.inl ⟨by rfl, ?_⟩) (by assumption) ?_
      rotate_left
      · (intro w hSw; (try dsimp only at hSw); go_simp; try with_reducible rfl)
      try simp only [List.getElem_toArray, List.getElem_cons_succ, List.getElem_cons_zero, Act.put, List.setIfInBounds_toArray, List.set_cons_zero, List.set_cons_succ]
      refine wpAnyH_take (i := 2) (v := ?_) rfl (by kernel_rfl) (by kernel_rfl) (by kernel_rfl) (fun _ _ _ h => h) (Or.inl ⟨by rfl, ?_⟩) (by assumption) ?_
      rotate_left
      · (intro w hSw; (try dsimp only at hSw); go_simp; try with_reducible rfl)
      try simp only [List.getElem_toArray, List.getElem_cons_succ, List.getElem_cons_zero, Act.put, List.setIfInBounds_toArray, List.set_cons_zero, List.set_cons_succ]
      refine wpAnyH_take (i := 3) (v := ?_) rfl (by kernel_rfl) (by kernel_rfl) (by kernel_rfl) (fun _ _ _ h => h) (Or.inl ⟨by rfl, ?_⟩) (by assumption) ?_
      rotate_left
      · (intro w hSw; (try dsimp only at hSw); go_simp; try with_reducible rfl)
      try simp only [List.getElem_toArray, List.getElem_cons_succ, List.getElem_cons_zero, Act.put, List.setIfInBounds_toArray, List.set_cons_zero, List.set_cons_succ]
      refine wpAnyH_take (i := 4) (v := ?_) rfl (by kernel_rfl) (by kernel_rfl) (by kernel_rfl) (fun _ _ _ h => h) (Or.inl ⟨by rfl, ?_⟩) (by assumption) ?_
      rotate_left
      · (intro w hSw; (try dsimp only at hSw); have f0 := (HRD.out.only (HX.out.trans hSw) (by simp)).cell hp (show (rowC (.slice Ap pl2.length cp, pl2, pb2, px2))[0]? = some (.slice Ap pl2.length cp) from rfl); have f1 := (HRD.out.only (HX.out.trans hSw) (by simp)).cell hp (show (rowC (.slice Ap pl2.length cp, pl2, pb2, px2))[1]? = some (.int .i64 pb2) from rfl); rw [Nat.add_zero] at f0; rw [← Nat.add_assoc] at f1; go_simp; try with_reducible rfl)
      try simp only [List.getElem_toArray, List.getElem_cons_succ, List.getElem_cons_zero, Act.put, List.setIfInBounds_toArray, List.set_cons_zero, List.set_cons_succ]
      refine wpAnyH_take (i := 5) (v := ?_) rfl (by kernel_rfl) (by kernel_rfl) (by kernel_rfl) (fun _ _ _ h => h) (Or.inl ⟨by rfl, ?_⟩) (by assumption) ?_
      rotate_left
      · (intro w hSw; (try dsimp only at hSw); have f0 := (HBX.out.only (HX.out.trans hSw) (by simp)).cell 0; have f1 := (HBX.out.only (HX.out.trans hSw) (by simp)).cell 1; simp at f0 f1; go_simp; try with_reducible rfl)
      try simp only [List.getElem_toArray, List.getElem_cons_succ, List.getElem_cons_zero, Act.put, List.setIfInBounds_toArray, List.set_cons_zero, List.set_cons_succ]
      refine wpAnyH_ready (rs := [6]) (by kernel_rfl) (by simp) ?_
      refine (AllReadyH.cons rfl (fun K hK => ?_) AllReadyH.nil)
      go_simp
      (go_at_call 22; refine (refsame_any _ _ pl2 pl pb2 pb [] [] wd4 (HPV2.out.only (HX.out.trans hHeld) (by simp)) (HPV.out.only (HX.out.trans hHeld) (by simp))).mono ?_; rintro e w5 ⟨rfl, ho⟩)
      refine hK.out _ _ (by exact (hHeld.trans ho)) (fun hHeldN => ?_)
      clear hK K hHeld
      have hHeld := hHeldN
      clear hHeldN
      try simp only [List.getElem_toArray, List.getElem_cons_succ, List.getElem_cons_zero, Act.put, List.setIfInBounds_toArray, List.set_cons_zero, List.set_cons_succ]
      clear ho
      have HX5 := hide (HX.out.trans hHeld)
      refine wpAnyH_done (by kernel_rfl) ?_ _
      by_cases he : (pl2, pb2) = (pl, pb)
      · have hb : (decide ((pb2 : Int) = (pb : Int)) && decide (pl2 = pl)) = true := by injection he with e1 e2; subst e1 e2; simp
        obtain ⟨h1, h2⟩ := erase_at (l := l) (i := k) (p := (pl, pb)) HLK.out he HNO.out
        have HE1 := hide h1
        have HE2 := hide h2
        have HW5 := hide (HO.out.trans HX5.out)
        clear h1 h2 he
        rw [hb]
        go_upto_region 5 with (fail)
        refine wp_region_held_drew (S := fun W' => Only [] w W') (by kernel_rfl) (by exact HW5.out.drew) (fun hHeld => ?_)
        have HD5 := hide (show Only [] w w5.drew from HW5.out.drew)
        have HZ5 := hide (show w.heap.size ≤ w5.drew.heap.size from HW5.out.size)
        have HQ5 := hide (show RdS 3 rowC w5.drew [] (.slice (some ⟨g, o, none⟩) n c) ps from (HRD0.out.only HW5.out.drew (by simp)))
        generalize w5.drew = wd5 at *
        refine wpAnyH_take (i := 1) (v := ?_) rfl (by kernel_rfl) (by kernel_rfl) (by kernel_rfl) (fun _ _ _ h => h) (Or.inl ⟨by rfl, ?_⟩) (by assumption) ?_
        rotate_left
        · (intro w hSw; (try dsimp only at hSw); go_simp; try with_reducible rfl)
        try simp only [List.getElem_toArray, List.getElem_cons_succ, List.getElem_cons_zero, Act.put, List.setIfInBounds_toArray, List.set_cons_zero, List.set_cons_succ]
        refine wpAnyH_take (i := 2) (v := ?_) rfl (by kernel_rfl) (by kernel_rfl) (by kernel_rfl) (fun _ _ _ h => h) (Or.inl ⟨by rfl, ?_⟩) (by assumption) ?_
        rotate_left
        · (intro w hSw; (try dsimp only at hSw); go_simp; try with_reducible rfl)
        try simp only [List.getElem_toArray, List.getElem_cons_succ, List.getElem_cons_zero, Act.put, List.setIfInBounds_toArray, List.set_cons_zero, List.set_cons_succ]
        refine wpAnyH_take (i := 3) (v := ?_) rfl (by kernel_rfl) (by kernel_rfl) (by kernel_rfl) (fun _ _ _ h => h) (Or.inl ⟨by rfl, ?_⟩) (by assumption) ?_
        rotate_left
        · (intro w hSw; (try dsimp only at hSw); have hkc := HKC.out; go_simp; try with_reducible rfl)
        try simp only [List.getElem_toArray, List.getElem_cons_succ, List.getElem_cons_zero, Act.put, List.setIfInBounds_toArray, List.set_cons_zero, List.set_cons_succ]
        refine wpAnyH_take (i := 5) (v := ?_) rfl (by kernel_rfl) (by kernel_rfl) (by kernel_rfl) (fun _ _ _ h => h) (Or.inl ⟨by rfl, ?_⟩) (by assumption) ?_
        rotate_left
        · (intro w hSw; (try dsimp only at hSw); go_simp; try with_reducible rfl)
        try simp only [List.getElem_toArray, List.getElem_cons_succ, List.getElem_cons_zero, Act.put, List.setIfInBounds_toArray, List.set_cons_zero, List.set_cons_succ]
        refine wpAnyH_take (i := 6) (v := ?_) rfl (by kernel_rfl) (by kernel_rfl) (by kernel_rfl) (fun _ _ _ h => h) (Or.inl ⟨by rfl, ?_⟩) (by assumption) ?_
        rotate_left
        · (intro w hSw; (try dsimp only at hSw); go_simp; try with_reducible rfl)
        try simp only [List.getElem_toArray, List.getElem_cons_succ, List.getElem_cons_zero, Act.put, List.setIfInBounds_toArray, List.set_cons_zero, List.set_cons_succ]
        refine wpAnyH_take (i := 7) (v := ?_) rfl (by kernel_rfl) (by kernel_rfl) (by kernel_rfl) (fun _ _ _ h => h) (Or.inl ⟨by rfl, ?_⟩) (by assumption) ?_
        rotate_left
        · (intro w hSw; (try dsimp only at hSw); go_simp; try with_reducible rfl)
        try simp only [List.getElem_toArray, List.getElem_cons_succ, List.getElem_cons_zero, Act.put, List.setIfInBounds_toArray, List.set_cons_zero, List.set_cons_succ]
        refine wpAnyH_take (i := 8) (v := ?_) rfl (by kernel_rfl) (by kernel_rfl) (by kernel_rfl) (fun _ _ _ h => h) (Or.inl ⟨by rfl, ?_⟩) (by assumption) ?_
        rotate_left
        · (intro w hSw; (try dsimp only at hSw); have hw := HWK.out; have h1 := HK1.out; have h0 := HK0.out; have h2 := HNC.out; have h3 := HKK.out; go_simp; try with_reducible rfl)
        try simp only [List.getElem_toArray, List.getElem_cons_succ, List.getElem_cons_zero, Act.put, List.setIfInBounds_toArray, List.set_cons_zero, List.set_cons_succ]
        refine wpAnyH_ready (rs := [0]) (by kernel_rfl) (by simp) ?_
        refine (AllReadyH.cons rfl (fun K hK => ?_) AllReadyH.nil)
        go_simp
        have HW0 := hide (ownR_empty wd5 w.heap.size HZ5.out)
        have HA0 := hide (HQ5.out.only ((Only.refl [] wd5).alloc (.cells #[] 57)) (by simp))
        have HO0 := hide (HD5.out.alloc (.cells #[] 57))
        refine hK.out _ _ (by exact hHeld.alloc _) (fun hHeldN => ?_)
        clear hK K hHeld
        have hHeld := hHeldN
        clear hHeldN
        try simp only [List.getElem_toArray, List.getElem_cons_succ, List.getElem_cons_zero, Act.put, List.setIfInBounds_toArray, List.set_cons_zero, List.set_cons_succ]
        generalize wd5.alloc (.cells #[] 57) = w6 at *
        generalize wd5.heap.size = G5 at *
        refine wpAnyH_ready (rs := [4]) (by kernel_rfl) (by simp) ?_
        refine (AllReadyH.cons rfl (fun K hK => ?_) AllReadyH.nil)
        rw [if_pos (by rfl)]
        refine wp_rows_append (W := w6) (w0 := w) _ _ rfl w.heap.size _ [] (ps.take k) rfl HW0.out _ _ _ rfl (HA0.out.take2 (by have := HKN.out; omega)) (fun p hp => HFORM.out p (List.mem_of_mem_take hp)) (by rw [List.length_take]; have := HL1.out; simp only [List.length_nil]; omega) HO0.out.size HO0.out (Nat.le_refl _) ?_; intro v7 w7 hown7 ho7 hs7 _; have HW7 := hide hown7; have HO7 := hide ho7; have HS7 := hide hs7; obtain ⟨A7, c7, hv7, _, _⟩ := own_form hown7; generalize ([] ++ ps.take k).length = n7 at hv7; subst hv7; clear hown7 ho7 hs7
        refine hK.out _ _ (by exact HO7.out) (fun hHeldN => ?_)
        clear hK K hHeld
        have hHeld := hHeldN
        clear hHeldN
        try simp only [List.getElem_toArray, List.getElem_cons_succ, List.getElem_cons_zero, Act.put, List.setIfInBounds_toArray, List.set_cons_zero, List.set_cons_succ]
        refine wpAnyH_ready (rs := [9]) (by kernel_rfl) (by simp) ?_
        refine (AllReadyH.cons rfl (fun K hK => ?_) AllReadyH.nil)
        rw [if_pos (by rfl)]
        refine wp_rows_append (W := w7) (w0 := w) _ _ rfl w.heap.size _ ([] ++ ps.take k) (ps.drop (k + 1)) rfl HW7.out _ _ _ rfl ((HRD0.out.only HO7.out (by simp)).drop2 HKN.out) (fun p hp => HFORM.out p (List.mem_of_mem_drop hp)) (by rw [List.nil_append, List.length_take, List.length_drop]; have := HL1.out; omega) HS7.out HO7.out (Nat.le_refl _) ?_; intro v8 w8 hown8 ho8 hs8 _; have HW8 := hide hown8; have HO8 := hide ho8; obtain ⟨A8, c8, hv8, _, _⟩ := own_form hown8; generalize ([] ++ ps.take k ++ ps.drop (k + 1)).length = n8 at hv8; subst hv8; clear hown8 ho8 hs8
        refine hK.out _ _ (by exact HO8.out) (fun hHeldN => ?_)
        clear hK K hHeld
        have hHeld := hHeldN
        clear hHeldN
        try simp only [List.getElem_toArray, List.getElem_cons_succ, List.getElem_cons_zero, Act.put, List.setIfInBounds_toArray, List.set_cons_zero, List.set_cons_succ]
        refine wpAnyH_take (i := 10) (v := ?_) rfl (by kernel_rfl) (by kernel_rfl) (by kernel_rfl) (fun _ _ _ h => h) (Or.inl ⟨by rfl, ?_⟩) (by assumption) ?_
        rotate_left
        · (intro w hSw; (try dsimp only at hSw); go_simp; try with_reducible rfl)
        try simp only [List.getElem_toArray, List.getElem_cons_succ, List.getElem_cons_zero, Act.put, List.setIfInBounds_toArray, List.set_cons_zero, List.set_cons_succ]
        refine wpAnyH_take (i := 11) (v := ?_) rfl (by kernel_rfl) (by kernel_rfl) (by kernel_rfl) (fun _ _ _ h => h) (Or.inl ⟨by rfl, ?_⟩) (by assumption) ?_
        rotate_left
        · (intro w hSw; (try dsimp only at hSw); go_simp; try with_reducible rfl)
        try simp only [List.getElem_toArray, List.getElem_cons_succ, List.getElem_cons_zero, Act.put, List.setIfInBounds_toArray, List.set_cons_zero, List.set_cons_succ]
        refine wpAnyH_done (by kernel_rfl) ?_ _
        have HPOST := hide (show DelRPost N l (pl, pb) w (.returned (.tuple #[.slice A8 n8 c8, .bool true])) w8 from by
          refine ⟨_, by rw [HE2.out], ?_, HO8.out⟩
          rw [HE1.out]
          refine ⟨ps.take k ++ ps.drop (k + 1), by rw [List.map_append, List.map_take, List.map_drop, HPS.out], (by simpa using HW8.out.rd HNN.out), fun p hp => ?_⟩
          have hm : p ∈ ps := (List.mem_append.1 hp).elim List.mem_of_mem_take List.mem_of_mem_drop
          exact (HROWS.out p hm).only HO8.out (by simp))
        go_wp2_with fail
        all_goals
          go_ret2
          exact HPOST.out
      · have hb : (decide ((pb2 : Int) = (pb : Int)) && decide (pl2 = pl)) = false := by
          rw [Bool.and_eq_false_iff]
          by_cases h1 : pl2 = pl
          · left; rw [decide_eq_false_iff_not]; intro h2; exact he (by rw [h1, Int.ofNat_inj.1 h2])
          · right; exact decide_eq_false h1
        have HE := hide he
        clear he
        rw [hb]
        go_wp2_with fail
        go_roundw
        case rel => exact ⟨k + 1, by omega, by go_num, hide (fun j s hj hs => by
          by_cases hjk : j = k
          · subst hjk; rw [HLK.out] at hs; injection hs with hs; subst hs; exact HE.out
          · exact HNO.out j s (by omega) hs), hide HX5.out⟩
        case measure => simp [intOf]; omega
    · obtain rfl : k = n := by omega
      have hge : ¬ (k : Int) < (k : Int) := by omega
      obtain ⟨h1, h2⟩ := erase_none (l := l) (p := (pl, pb)) (fun j s hs => HNO.out j s (by
        have := (List.getElem?_eq_some_iff.1 hs).1
        rw [← HPS.out, List.length_map] at this
        have := HN.out
        omega) hs)
      have HE1 := hide h1
      have HE2 := hide h2
      clear h1 h2
      go_wp2_with fail
      go_ret2
      refine ⟨_, congrArg (fun b => Ending.returned (.tuple #[_, .bool b])) HE2.out.symm, ?_, HO.out.trans HX.out⟩
      rw [HE1.out]
      exact ⟨ps, HPS.out, HRN.out.only (HO.out.trans HX.out) (by simp), fun p hp => (HROWS.out p hp).only (HO.out.trans HX.out) (by simp)⟩
end
end Go.Proofs.Ytokaobilphfdoaa

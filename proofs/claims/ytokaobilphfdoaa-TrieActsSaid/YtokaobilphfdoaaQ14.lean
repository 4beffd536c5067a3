/-
  Walks and plain words (texts Tx6). No condition beyond those that each theorem states.
-/
import Derived.Test.YtokaobilphfdoaaQ13
namespace Go.Proofs.Ytokaobilphfdoaa
section
open Go.RowKit Go.Deep

theorem of_at {m : List Rw} {x : Int} {k : Nat} {r : Rw} (h : m[k]? = some r) (hx : r.2.2 = x) : (ofV m x)[(ofV (m.take k) x).length]? = some r ∧ (ofV (m.take (k + 1)) x).length = (ofV (m.take k) x).length + 1 := by
  have hs : ofV (m.take (k + 1)) x = ofV (m.take k) x ++ [r] := by
    unfold ofV
    rw [List.take_add_one, h, List.filter_append]
    simp [hx]
  refine ⟨?_, by rw [hs]; simp⟩
  have hm : ofV m x = ofV (m.take (k + 1)) x ++ ofV (m.drop (k + 1)) x := by unfold ofV; rw [← List.filter_append, List.take_append_drop]
  rw [hm, hs, List.getElem?_append_left (by simp), List.getElem?_append_right (Nat.le_refl _)]
  simp
theorem of_off {m : List Rw} {x : Int} {k : Nat} {r : Rw} (h : m[k]? = some r) (hx : ¬ r.2.2 = x) : (ofV (m.take (k + 1)) x).length = (ofV (m.take k) x).length := by
  unfold ofV
  rw [List.take_add_one, h, List.filter_append]
  simp [hx]
theorem rds_less {k : Nat} {F : PRw → List Value} {w : World} {N : List Nat} {v : Value} {l : List PRw} (h : RdS k F w N v l) : RdS k F w [] v l := by
  obtain ⟨A', c', h1, h2, h3, h4⟩ := h
  exact ⟨A', c', h1, h2, h3, h4.imp id (fun ⟨g, o, e1, _, e2⟩ => ⟨g, o, e1, (by simp), e2⟩)⟩
set_option maxRecDepth 100000 in
set_option maxHeartbeats 12800000 in
theorem even_any (T : Nat) (bl : List Nat) (m : List Rw) (lv : Value) (x : Int) (w : World) (hT : TabIs2 T bl m w) (hm : m.length ≤ 1000) (hl : RowsRd 3 rowC w bl lv m) :
    Calls Try.prog 16 #[.pointer (some ⟨T, 0, none⟩), lv, .int .i64 x] w fun e w' => e = .returned (.bool true) ∧ Only [] w w' := by
  obtain ⟨ad, th, ow, h1, h2, h3⟩ := hT
  have hrw := fun W (h : TrIs W T bl ad th ow) => rows_any T bl ad th ow W h (by rw [rows_eq h2]; exact hm)
  have hof := fun W (h : TrIs W T bl ad th ow) => of_any T bl ad th ow x W h (by rw [rows_eq h2]; exact hm)
  rw [rows_eq h2] at hrw hof
  have HRW := hide hrw
  have HOFA := hide hof
  have HT0 := hide h1
  obtain ⟨qs, hqs, hqd, hqr⟩ := hl
  obtain ⟨Al, cl, rfl, _, _⟩ := hqd.form
  have HQS := hide hqs
  have HQD := hide (rds_less hqd)
  have HQR := hide hqr
  obtain ⟨n, hn⟩ : ∃ n, n = m.length := ⟨_, rfl⟩
  have hql : qs.length = n := by rw [hn, ← hqs, List.length_map]
  rw [hql] at HQD ⊢
  have HN := hide hn
  have HQL := hide hql
  have hn1000 : n ≤ 1000 := by rw [hn]; exact hm
  clear hrw hof h1 h2 h3 hqs hqd hqr hm hql hn
  go_enter Try.func16, Try.ntmps16
  go_wp2_with (first
    | (go_at_call 28; refine (HRW.out _ HT0.out).mono ?_; rintro e w1 ⟨v1, rfl, hL, ho⟩; obtain ⟨ps, hps, hrd, hrows⟩ := hL.rd rowC_len (by decide); obtain ⟨Ar, cr, rfl, _, _⟩ := hrd.form; have HPL := hide (show ps.length = n from by rw [HN.out, ← hps, List.length_map]); rw [HPL.out] at hrd ⊢; have HPS := hide hps; have HRR0 := hide (rds_less hrd); have HROWS := hide hrows; have HO1 := hide ho; clear hps hrd hrows ho hL)
    | (go_at_call 26; refine (HOFA.out _ (HT0.out.only HO1.out (by simp))).mono ?_; rintro e w3 ⟨v3, rfl, hL, ho⟩; obtain ⟨rs, hrs, hrd, hrows⟩ := hL.rd pfxC_len (by decide); obtain ⟨Ao, co, rfl, _, _⟩ := hrd.form; obtain ⟨no, hno⟩ : ∃ no, no = rs.length := ⟨_, rfl⟩; rw [← hno] at hrd ⊢; have HNO := hide (show no = (ofV m x).length from by rw [hno, ← hrs, List.length_map]); have HRS := hide hrs; have HOF := hide (rds_less hrd); have HORR := hide hrows; have HO2 := hide ho; clear hrs hrd hrows ho hL hno))
  have HO3 := hide (HO1.out.trans HO2.out)
  have HRR := hide (HRR0.out.only HO2.out (by simp))
  have HLL := hide (HQD.out.only HO3.out (by simp))
  go_loopw [8, 10] (fun c i wr => ∃ k : Nat, k ≤ n ∧ i = .int .i64 k ∧ (∃ t : Nat, c = .int .i64 t ∧ Hid (t = (ofV (m.take k) x).length) ∧ t ≤ k) ∧ Hid (Only [] w3 wr)) (fun _ i _ => n - (intOf i).toNat)
  case atStart => exact ⟨0, Nat.zero_le _, rfl, ⟨0, rfl, hide rfl, Nat.le_refl _⟩, hide (Only.refl [] w3)⟩
  case round =>
    obtain ⟨k, hk, rfl, ⟨t, rfl, HTC, htk⟩, HX⟩ := hrel
    by_cases hlt : k < n
    · have hltI : (k : Int) < (n : Int) := by omega
      obtain ⟨p, hp⟩ : ∃ p, ps[k]? = some p := ⟨_, List.getElem?_eq_getElem (by rw [HPL.out]; exact hlt)⟩
      obtain ⟨q, hq⟩ : ∃ q, qs[k]? = some q := ⟨_, List.getElem?_eq_getElem (by rw [HQL.out]; exact hlt)⟩
      have hmk : m[k]? = some p.2 := by rw [← HPS.out, List.getElem?_map, hp]; rfl
      have hmq : m[k]? = some q.2 := by rw [← HQS.out, List.getElem?_map, hq]; rfl
      have HMK := hide hmk
      have hpq : q.2 = p.2 := by rw [hmk] at hmq; injection hmq with hmq; exact hmq.symm
      obtain ⟨g, o, rfl, _, _⟩ := HRR.out.addr (by rw [HPL.out]; omega)
      obtain ⟨g2, o2, rfl, _, _⟩ := HLL.out.addr (by rw [HQL.out]; omega)
      have hpv := (HROWS.out p (List.mem_of_getElem? hp)).less (N' := []) (by simp)
      have hqv := (HQR.out q (List.mem_of_getElem? hq)).less (N' := []) (by simp)
      obtain ⟨qv, qr⟩ := q
      obtain ⟨pv, pl, pb, px⟩ := p
      simp only at hpq hpv hqv HMK
      subst hpq
      obtain ⟨Ap, cp, rfl, _, _⟩ := hpv.formb
      obtain ⟨Aq, cq, rfl, _, _⟩ := hqv.formb
      have HP := hide hp
      have HQ := hide hq
      have HPV := hide (hpv.only HO2.out (by simp))
      have HQV := hide (hqv.only HO3.out (by simp))
      clear hp hq hmk hmq hpv hqv
      go_upto_region 9 with (fail)
      refine wp_region_held_drew (S := fun W' => Only [] w3 W') (by kernel_rfl) (by exact HX.out.drew) (fun hHeld => ?_)
      have HD := hide (show Only [] w3 wr.drew from HX.out.drew)
      generalize wr.drew = wd9 at *
      refine wpAnyH_take (i := 0) (v := ?_) rfl (by kernel_rfl) (by kernel_rfl) (by kernel_rfl) (fun _ _ _ h => h) (Or.inl ⟨by rfl, ?_⟩) (by assumption) ?_
      rotate_left
      · (intro w hSw; (try dsimp only at hSw); go_simp; try with_reducible rfl)
      try simp only [List.getElem_toArray, List.getElem_cons_succ, List.getElem_cons_zero, Act.put, List.setIfInBounds_toArray, List.set_cons_zero, List.set_cons_succ]
      refine wpAnyH_take (i := 1) (v := ?_) rfl (by kernel_rfl) (by kernel_rfl) (by kernel_rfl) (fun _ _ _ h => h) (Or.inl ⟨by rfl, ?_⟩) (by assumption) ?_
      rotate_left
      · (intro w hSw; (try dsimp only at hSw); go_simp; try with_reducible rfl)
      try simp only [List.getElem_toArray, List.getElem_cons_succ, List.getElem_cons_zero, Act.put, List.setIfInBounds_toArray, List.set_cons_zero, List.set_cons_succ]
      refine wpAnyH_take (i := 2) (v := ?_) rfl (by kernel_rfl) (by kernel_rfl) (by kernel_rfl) (fun _ _ _ h => h) (Or.inl ⟨by rfl, ?_⟩) (by assumption) ?_
      rotate_left
      · (intro w hSw; (try dsimp only at hSw); go_simp; try with_reducible rfl)
      try simp only [List.getElem_toArray, List.getElem_cons_succ, List.getElem_cons_zero, Act.put, List.setIfInBounds_toArray, List.set_cons_zero, List.set_cons_succ]
      refine wpAnyH_take (i := 3) (v := ?_) rfl (by kernel_rfl) (by kernel_rfl) (by kernel_rfl) (fun _ _ _ h => h) (Or.inl ⟨by rfl, ?_⟩) (by assumption) ?_
      rotate_left
      · (intro w hSw; (try dsimp only at hSw); go_simp; try with_reducible rfl)
      try simp only [List.getElem_toArray, List.getElem_cons_succ, List.getElem_cons_zero, Act.put, List.setIfInBounds_toArray, List.set_cons_zero, List.set_cons_succ]
      refine wpAnyH_take (i := 4) (v := ?_) rfl (by kernel_rfl) (by kernel_rfl) (by kernel_rfl) (fun _ _ _ h => h) (Or.inl ⟨by rfl, ?_⟩) (by assumption) ?_
      rotate_left
      · (intro w hSw; (try dsimp only at hSw); have f2 := (HRR.out.only hSw (by simp)).cell HP.out (show (rowC (.slice Ap pl.length cp, pl, pb, px))[2]? = some (.int .i64 px) from rfl); rw [← Nat.add_assoc] at f2; go_simp; try with_reducible rfl)
      try simp only [List.getElem_toArray, List.getElem_cons_succ, List.getElem_cons_zero, Act.put, List.setIfInBounds_toArray, List.set_cons_zero, List.set_cons_succ]
      refine wpAnyH_take (i := 5) (v := ?_) rfl (by kernel_rfl) (by kernel_rfl) (by kernel_rfl) (fun _ _ _ h => h) (Or.inl ⟨by rfl, ?_⟩) (by assumption) ?_
      rotate_left
      · (intro w hSw; (try dsimp only at hSw); go_simp; try with_reducible rfl)
      try simp only [List.getElem_toArray, List.getElem_cons_succ, List.getElem_cons_zero, Act.put, List.setIfInBounds_toArray, List.set_cons_zero, List.set_cons_succ]
      refine wpAnyH_take (i := 6) (v := ?_) rfl (by kernel_rfl) (by kernel_rfl) (by kernel_rfl) (fun _ _ _ h => h) (Or.inl ⟨by rfl, ?_⟩) (by assumption) ?_
      rotate_left
      · (intro w hSw; (try dsimp only at hSw); go_simp; try with_reducible rfl)
      try simp only [List.getElem_toArray, List.getElem_cons_succ, List.getElem_cons_zero, Act.put, List.setIfInBounds_toArray, List.set_cons_zero, List.set_cons_succ]
      refine wpAnyH_take (i := 7) (v := ?_) rfl (by kernel_rfl) (by kernel_rfl) (by kernel_rfl) (fun _ _ _ h => h) (Or.inl ⟨by rfl, ?_⟩) (by assumption) ?_
      rotate_left
      · (intro w hSw; (try dsimp only at hSw); go_simp; try with_reducible rfl)
      try simp only [List.getElem_toArray, List.getElem_cons_succ, List.getElem_cons_zero, Act.put, List.setIfInBounds_toArray, List.set_cons_zero, List.set_cons_succ]
      refine wpAnyH_take (i := 8) (v := ?_) rfl (by kernel_rfl) (by kernel_rfl) (by kernel_rfl) (fun _ _ _ h => h) (Or.inl ⟨by rfl, ?_⟩) (by assumption) ?_
      rotate_left
      · (intro w hSw; (try dsimp only at hSw); go_simp; try with_reducible rfl)
      try simp only [List.getElem_toArray, List.getElem_cons_succ, List.getElem_cons_zero, Act.put, List.setIfInBounds_toArray, List.set_cons_zero, List.set_cons_succ]
      refine wpAnyH_take (i := 9) (v := ?_) rfl (by kernel_rfl) (by kernel_rfl) (by kernel_rfl) (fun _ _ _ h => h) (Or.inl ⟨by rfl, ?_⟩) (by assumption) ?_
      rotate_left
      · (intro w hSw; (try dsimp only at hSw); have f2 := (HLL.out.only hSw (by simp)).cell HQ.out (show (rowC (.slice Aq pl.length cq, pl, pb, px))[2]? = some (.int .i64 px) from rfl); rw [← Nat.add_assoc] at f2; go_simp; try with_reducible rfl)
      try simp only [List.getElem_toArray, List.getElem_cons_succ, List.getElem_cons_zero, Act.put, List.setIfInBounds_toArray, List.set_cons_zero, List.set_cons_succ]
      refine wpAnyH_take (i := 10) (v := ?_) rfl (by kernel_rfl) (by kernel_rfl) (by kernel_rfl) (fun _ _ _ h => h) (Or.inl ⟨by rfl, ?_⟩) (by assumption) ?_
      rotate_left
      · (intro w hSw; (try dsimp only at hSw); go_simp; try with_reducible rfl)
      try simp only [List.getElem_toArray, List.getElem_cons_succ, List.getElem_cons_zero, Act.put, List.setIfInBounds_toArray, List.set_cons_zero, List.set_cons_succ]
      refine wpAnyH_take (i := 11) (v := ?_) rfl (by kernel_rfl) (by kernel_rfl) (by kernel_rfl) (fun _ _ _ h => h) (Or.inl ⟨by rfl, ?_⟩) (by assumption) ?_
      rotate_left
      · (intro w hSw; (try dsimp only at hSw); go_simp; try with_reducible rfl)
      try simp only [List.getElem_toArray, List.getElem_cons_succ, List.getElem_cons_zero, Act.put, List.setIfInBounds_toArray, List.set_cons_zero, List.set_cons_succ]
      refine wpAnyH_take (i := 12) (v := ?_) rfl (by kernel_rfl) (by kernel_rfl) (by kernel_rfl) (fun _ _ _ h => h) (Or.inl ⟨by rfl, ?_⟩) (by assumption) ?_
      rotate_left
      · (intro w hSw; (try dsimp only at hSw); go_simp; try with_reducible rfl)
      try simp only [List.getElem_toArray, List.getElem_cons_succ, List.getElem_cons_zero, Act.put, List.setIfInBounds_toArray, List.set_cons_zero, List.set_cons_succ]
      refine wpAnyH_take (i := 13) (v := ?_) rfl (by kernel_rfl) (by kernel_rfl) (by kernel_rfl) (fun _ _ _ h => h) (Or.inl ⟨by rfl, ?_⟩) (by assumption) ?_
      rotate_left
      · (intro w hSw; (try dsimp only at hSw); go_simp; try with_reducible rfl)
      try simp only [List.getElem_toArray, List.getElem_cons_succ, List.getElem_cons_zero, Act.put, List.setIfInBounds_toArray, List.set_cons_zero, List.set_cons_succ]
      refine wpAnyH_take (i := 14) (v := ?_) rfl (by kernel_rfl) (by kernel_rfl) (by kernel_rfl) (fun _ _ _ h => h) (Or.inl ⟨by rfl, ?_⟩) (by assumption) ?_
      rotate_left
      · (intro w hSw; (try dsimp only at hSw); go_simp; try with_reducible rfl)
      try simp only [List.getElem_toArray, List.getElem_cons_succ, List.getElem_cons_zero, Act.put, List.setIfInBounds_toArray, List.set_cons_zero, List.set_cons_succ]
      refine wpAnyH_take (i := 15) (v := ?_) rfl (by kernel_rfl) (by kernel_rfl) (by kernel_rfl) (fun _ _ _ h => h) (Or.inl ⟨by rfl, ?_⟩) (by assumption) ?_
      rotate_left
      · (intro w hSw; (try dsimp only at hSw); go_simp; try with_reducible rfl)
      try simp only [List.getElem_toArray, List.getElem_cons_succ, List.getElem_cons_zero, Act.put, List.setIfInBounds_toArray, List.set_cons_zero, List.set_cons_succ]
      refine wpAnyH_take (i := 16) (v := ?_) rfl (by kernel_rfl) (by kernel_rfl) (by kernel_rfl) (fun _ _ _ h => h) (Or.inl ⟨by rfl, ?_⟩) (by assumption) ?_
      rotate_left
      · (intro w hSw; (try dsimp only at hSw); have f0 := (HRR.out.only hSw (by simp)).cell HP.out (show (rowC (.slice Ap pl.length cp, pl, pb, px))[0]? = some (.slice Ap pl.length cp) from rfl); rw [Nat.add_zero] at f0; have f1 := (HRR.out.only hSw (by simp)).cell HP.out (show (rowC (.slice Ap pl.length cp, pl, pb, px))[1]? = some (.int .i64 pb) from rfl); rw [← Nat.add_assoc] at f1; go_simp; try with_reducible rfl)
      try simp only [List.getElem_toArray, List.getElem_cons_succ, List.getElem_cons_zero, Act.put, List.setIfInBounds_toArray, List.set_cons_zero, List.set_cons_succ]
      refine wpAnyH_take (i := 17) (v := ?_) rfl (by kernel_rfl) (by kernel_rfl) (by kernel_rfl) (fun _ _ _ h => h) (Or.inl ⟨by rfl, ?_⟩) (by assumption) ?_
      rotate_left
      · (intro w hSw; (try dsimp only at hSw); go_simp; try with_reducible rfl)
      try simp only [List.getElem_toArray, List.getElem_cons_succ, List.getElem_cons_zero, Act.put, List.setIfInBounds_toArray, List.set_cons_zero, List.set_cons_succ]
      refine wpAnyH_take (i := 18) (v := ?_) rfl (by kernel_rfl) (by kernel_rfl) (by kernel_rfl) (fun _ _ _ h => h) (Or.inl ⟨by rfl, ?_⟩) (by assumption) ?_
      rotate_left
      · (intro w hSw; (try dsimp only at hSw); go_simp; try with_reducible rfl)
      try simp only [List.getElem_toArray, List.getElem_cons_succ, List.getElem_cons_zero, Act.put, List.setIfInBounds_toArray, List.set_cons_zero, List.set_cons_succ]
      refine wpAnyH_take (i := 19) (v := ?_) rfl (by kernel_rfl) (by kernel_rfl) (by kernel_rfl) (fun _ _ _ h => h) (Or.inl ⟨by rfl, ?_⟩) (by assumption) ?_
      rotate_left
      · (intro w hSw; (try dsimp only at hSw); go_simp; try with_reducible rfl)
      try simp only [List.getElem_toArray, List.getElem_cons_succ, List.getElem_cons_zero, Act.put, List.setIfInBounds_toArray, List.set_cons_zero, List.set_cons_succ]
      refine wpAnyH_take (i := 20) (v := ?_) rfl (by kernel_rfl) (by kernel_rfl) (by kernel_rfl) (fun _ _ _ h => h) (Or.inl ⟨by rfl, ?_⟩) (by assumption) ?_
      rotate_left
      · (intro w hSw; (try dsimp only at hSw); go_simp; try with_reducible rfl)
      try simp only [List.getElem_toArray, List.getElem_cons_succ, List.getElem_cons_zero, Act.put, List.setIfInBounds_toArray, List.set_cons_zero, List.set_cons_succ]
      refine wpAnyH_take (i := 21) (v := ?_) rfl (by kernel_rfl) (by kernel_rfl) (by kernel_rfl) (fun _ _ _ h => h) (Or.inl ⟨by rfl, ?_⟩) (by assumption) ?_
      rotate_left
      · (intro w hSw; (try dsimp only at hSw); have f0 := (HLL.out.only hSw (by simp)).cell HQ.out (show (rowC (.slice Aq pl.length cq, pl, pb, px))[0]? = some (.slice Aq pl.length cq) from rfl); rw [Nat.add_zero] at f0; have f1 := (HLL.out.only hSw (by simp)).cell HQ.out (show (rowC (.slice Aq pl.length cq, pl, pb, px))[1]? = some (.int .i64 pb) from rfl); rw [← Nat.add_assoc] at f1; go_simp; try with_reducible rfl)
      try simp only [List.getElem_toArray, List.getElem_cons_succ, List.getElem_cons_zero, Act.put, List.setIfInBounds_toArray, List.set_cons_zero, List.set_cons_succ]
      refine wpAnyH_ready (rs := [22]) (by kernel_rfl) (by simp) ?_
      refine (AllReadyH.cons rfl (fun K hK => ?_) AllReadyH.nil)
      go_simp
      (go_at_call 22; refine (refsame_any _ _ pl pl pb pb [] [] wd9 (HPV.out.only hHeld (by simp)) (HQV.out.only hHeld (by simp))).mono ?_; rintro e w5 ⟨rfl, ho⟩)
      refine hK.out _ _ (by exact (hHeld.trans ho)) (fun hHeldN => ?_)
      clear hK K hHeld
      have hHeld := hHeldN
      clear hHeldN
      try simp only [List.getElem_toArray, List.getElem_cons_succ, List.getElem_cons_zero, Act.put, List.setIfInBounds_toArray, List.set_cons_zero, List.set_cons_succ]
      clear ho
      have HX5 := hide hHeld
      refine wpAnyH_take (i := 23) (v := ?_) rfl (by kernel_rfl) (by kernel_rfl) (by kernel_rfl) (fun _ _ _ h => h) (Or.inl ⟨by rfl, ?_⟩) (by assumption) ?_
      rotate_left
      · (intro w hSw; (try dsimp only at hSw); go_simp; try with_reducible rfl)
      try simp only [List.getElem_toArray, List.getElem_cons_succ, List.getElem_cons_zero, Act.put, List.setIfInBounds_toArray, List.set_cons_zero, List.set_cons_succ]
      refine wpAnyH_take (i := 24) (v := ?_) rfl (by kernel_rfl) (by kernel_rfl) (by kernel_rfl) (fun _ _ _ h => h) (Or.inl ⟨by rfl, ?_⟩) (by assumption) ?_
      rotate_left
      · (intro w hSw; (try dsimp only at hSw); go_simp; try with_reducible rfl)
      try simp only [List.getElem_toArray, List.getElem_cons_succ, List.getElem_cons_zero, Act.put, List.setIfInBounds_toArray, List.set_cons_zero, List.set_cons_succ]
      refine wpAnyH_done (by kernel_rfl) ?_ _
      by_cases hx : px = x
      · obtain ⟨h1, h2⟩ := of_at (x := x) HMK.out hx
        have hxb : (px == x) = true := by rw [beq_iff_eq]; exact hx
        rw [← HTC.out] at h1 h2
        obtain ⟨s, hs⟩ : ∃ s, rs[t]? = some s := by
          have : t < rs.length := by
            have h3 := (List.getElem?_eq_some_iff.1 h1).1
            rw [← HRS.out, List.length_map] at h3
            exact h3
          exact ⟨_, List.getElem?_eq_getElem this⟩
        have hs2 : s.2 = (pl, pb, px) := by
          rw [← HRS.out, List.getElem?_map, hs] at h1
          injection h1
        have htn : t < no := by
          have h3 := (List.getElem?_eq_some_iff.1 h1).1
          rw [HNO.out]; exact h3
        have htnI : (t : Int) < (no : Int) := by omega
        have hte : ((t : Int) == (no : Int)) = false := by rw [beq_eq_false_iff_ne]; omega
        have hsv := (HORR.out s (List.mem_of_getElem? hs)).less (N' := []) (by simp)
        obtain ⟨sv, sr⟩ := s
        simp only at hs2 hsv
        subst hs2
        obtain ⟨As, cs, rfl, _, _⟩ := hsv.formb
        obtain ⟨g3, o3, rfl, _, _⟩ := HOF.out.addr (by have h3 := (List.getElem?_eq_some_iff.1 hs).1; omega)
        have HS := hide hs
        have HSV := hide hsv
        have HC2 := hide h2
        have c2 := (HLL.out.only HX5.out (by simp)).cell HQ.out (show (rowC (.slice Aq pl.length cq, pl, pb, px))[2]? = some (.int .i64 px) from rfl)
        rw [← Nat.add_assoc] at c2
        clear hs hsv h1 h2 hx
        go_upto_region 12 with (fail)
        refine wp_region_held_drew (S := fun W' => Only [] w3 W') (by kernel_rfl) (by exact HX5.out.drew) (fun hHeld => ?_)
        have HD2 := hide (show Only [] w3 w5.drew from HX5.out.drew)
        generalize w5.drew = wd12 at *
        refine wpAnyH_take (i := 0) (v := ?_) rfl (by kernel_rfl) (by kernel_rfl) (by kernel_rfl) (fun _ _ _ h => h) (Or.inl ⟨by rfl, ?_⟩) (by assumption) ?_
        rotate_left
        · (intro w hSw; (try dsimp only at hSw); go_simp; try with_reducible rfl)
        try simp only [List.getElem_toArray, List.getElem_cons_succ, List.getElem_cons_zero, Act.put, List.setIfInBounds_toArray, List.set_cons_zero, List.set_cons_succ]
        refine wpAnyH_take (i := 1) (v := ?_) rfl (by kernel_rfl) (by kernel_rfl) (by kernel_rfl) (fun _ _ _ h => h) (Or.inl ⟨by rfl, ?_⟩) (by assumption) ?_
        rotate_left
        · (intro w hSw; (try dsimp only at hSw); go_simp; try with_reducible rfl)
        try simp only [List.getElem_toArray, List.getElem_cons_succ, List.getElem_cons_zero, Act.put, List.setIfInBounds_toArray, List.set_cons_zero, List.set_cons_succ]
        refine wpAnyH_take (i := 2) (v := ?_) rfl (by kernel_rfl) (by kernel_rfl) (by kernel_rfl) (fun _ _ _ h => h) (Or.inl ⟨by rfl, ?_⟩) (by assumption) ?_
        rotate_left
        · (intro w hSw; (try dsimp only at hSw); go_simp; try with_reducible rfl)
        try simp only [List.getElem_toArray, List.getElem_cons_succ, List.getElem_cons_zero, Act.put, List.setIfInBounds_toArray, List.set_cons_zero, List.set_cons_succ]
        refine wpAnyH_take (i := 3) (v := ?_) rfl (by kernel_rfl) (by kernel_rfl) (by kernel_rfl) (fun _ _ _ h => h) (Or.inl ⟨by rfl, ?_⟩) (by assumption) ?_
        rotate_left
        · (intro w hSw; (try dsimp only at hSw); go_simp; try with_reducible rfl)
        try simp only [List.getElem_toArray, List.getElem_cons_succ, List.getElem_cons_zero, Act.put, List.setIfInBounds_toArray, List.set_cons_zero, List.set_cons_succ]
        refine wpAnyH_take (i := 4) (v := ?_) rfl (by kernel_rfl) (by kernel_rfl) (by kernel_rfl) (fun _ _ _ h => h) (Or.inl ⟨by rfl, ?_⟩) (by assumption) ?_
        rotate_left
        · (intro w hSw; (try dsimp only at hSw); go_simp; try with_reducible rfl)
        try simp only [List.getElem_toArray, List.getElem_cons_succ, List.getElem_cons_zero, Act.put, List.setIfInBounds_toArray, List.set_cons_zero, List.set_cons_succ]
        refine wpAnyH_take (i := 5) (v := ?_) rfl (by kernel_rfl) (by kernel_rfl) (by kernel_rfl) (fun _ _ _ h => h) (Or.inl ⟨by rfl, ?_⟩) (by assumption) ?_
        rotate_left
        · (intro w hSw; (try dsimp only at hSw); go_simp; try with_reducible rfl)
        try simp only [List.getElem_toArray, List.getElem_cons_succ, List.getElem_cons_zero, Act.put, List.setIfInBounds_toArray, List.set_cons_zero, List.set_cons_succ]
        refine wpAnyH_take (i := 6) (v := ?_) rfl (by kernel_rfl) (by kernel_rfl) (by kernel_rfl) (fun _ _ _ h => h) (Or.inl ⟨by rfl, ?_⟩) (by assumption) ?_
        rotate_left
        · (intro w hSw; (try dsimp only at hSw); go_simp; try with_reducible rfl)
        try simp only [List.getElem_toArray, List.getElem_cons_succ, List.getElem_cons_zero, Act.put, List.setIfInBounds_toArray, List.set_cons_zero, List.set_cons_succ]
        refine wpAnyH_take (i := 7) (v := ?_) rfl (by kernel_rfl) (by kernel_rfl) (by kernel_rfl) (fun _ _ _ h => h) (Or.inl ⟨by rfl, ?_⟩) (by assumption) ?_
        rotate_left
        · (intro w hSw; (try dsimp only at hSw); go_simp; try with_reducible rfl)
        try simp only [List.getElem_toArray, List.getElem_cons_succ, List.getElem_cons_zero, Act.put, List.setIfInBounds_toArray, List.set_cons_zero, List.set_cons_succ]
        refine wpAnyH_take (i := 8) (v := ?_) rfl (by kernel_rfl) (by kernel_rfl) (by kernel_rfl) (fun _ _ _ h => h) (Or.inl ⟨by rfl, ?_⟩) (by assumption) ?_
        rotate_left
        · (intro w hSw; (try dsimp only at hSw); have f0 := (HOF.out.only hSw (by simp)).cell HS.out (show (pfxC (.slice As pl.length cs, pl, pb, px))[0]? = some (.slice As pl.length cs) from rfl); rw [Nat.add_zero] at f0; have f1 := (HOF.out.only hSw (by simp)).cell HS.out (show (pfxC (.slice As pl.length cs, pl, pb, px))[1]? = some (.int .i64 pb) from rfl); rw [← Nat.add_assoc] at f1; go_simp; try with_reducible rfl)
        try simp only [List.getElem_toArray, List.getElem_cons_succ, List.getElem_cons_zero, Act.put, List.setIfInBounds_toArray, List.set_cons_zero, List.set_cons_succ]
        refine wpAnyH_take (i := 9) (v := ?_) rfl (by kernel_rfl) (by kernel_rfl) (by kernel_rfl) (fun _ _ _ h => h) (Or.inl ⟨by rfl, ?_⟩) (by assumption) ?_
        rotate_left
        · (intro w hSw; (try dsimp only at hSw); go_simp; try with_reducible rfl)
        try simp only [List.getElem_toArray, List.getElem_cons_succ, List.getElem_cons_zero, Act.put, List.setIfInBounds_toArray, List.set_cons_zero, List.set_cons_succ]
        refine wpAnyH_take (i := 10) (v := ?_) rfl (by kernel_rfl) (by kernel_rfl) (by kernel_rfl) (fun _ _ _ h => h) (Or.inl ⟨by rfl, ?_⟩) (by assumption) ?_
        rotate_left
        · (intro w hSw; (try dsimp only at hSw); go_simp; try with_reducible rfl)
        try simp only [List.getElem_toArray, List.getElem_cons_succ, List.getElem_cons_zero, Act.put, List.setIfInBounds_toArray, List.set_cons_zero, List.set_cons_succ]
        refine wpAnyH_take (i := 11) (v := ?_) rfl (by kernel_rfl) (by kernel_rfl) (by kernel_rfl) (fun _ _ _ h => h) (Or.inl ⟨by rfl, ?_⟩) (by assumption) ?_
        rotate_left
        · (intro w hSw; (try dsimp only at hSw); go_simp; try with_reducible rfl)
        try simp only [List.getElem_toArray, List.getElem_cons_succ, List.getElem_cons_zero, Act.put, List.setIfInBounds_toArray, List.set_cons_zero, List.set_cons_succ]
        refine wpAnyH_take (i := 12) (v := ?_) rfl (by kernel_rfl) (by kernel_rfl) (by kernel_rfl) (fun _ _ _ h => h) (Or.inl ⟨by rfl, ?_⟩) (by assumption) ?_
        rotate_left
        · (intro w hSw; (try dsimp only at hSw); go_simp; try with_reducible rfl)
        try simp only [List.getElem_toArray, List.getElem_cons_succ, List.getElem_cons_zero, Act.put, List.setIfInBounds_toArray, List.set_cons_zero, List.set_cons_succ]
        refine wpAnyH_take (i := 13) (v := ?_) rfl (by kernel_rfl) (by kernel_rfl) (by kernel_rfl) (fun _ _ _ h => h) (Or.inl ⟨by rfl, ?_⟩) (by assumption) ?_
        rotate_left
        · (intro w hSw; (try dsimp only at hSw); have f0 := (HLL.out.only hSw (by simp)).cell HQ.out (show (rowC (.slice Aq pl.length cq, pl, pb, px))[0]? = some (.slice Aq pl.length cq) from rfl); rw [Nat.add_zero] at f0; have f1 := (HLL.out.only hSw (by simp)).cell HQ.out (show (rowC (.slice Aq pl.length cq, pl, pb, px))[1]? = some (.int .i64 pb) from rfl); rw [← Nat.add_assoc] at f1; go_simp; try with_reducible rfl)
        try simp only [List.getElem_toArray, List.getElem_cons_succ, List.getElem_cons_zero, Act.put, List.setIfInBounds_toArray, List.set_cons_zero, List.set_cons_succ]
        refine wpAnyH_ready (rs := [14]) (by kernel_rfl) (by simp) ?_
        refine (AllReadyH.cons rfl (fun K hK => ?_) AllReadyH.nil)
        go_simp
        (go_at_call 22; refine (refsame_any _ _ pl pl pb pb [] [] wd12 (HSV.out.only hHeld (by simp)) (HQV.out.only hHeld (by simp))).mono ?_; rintro e w6 ⟨rfl, ho⟩)
        refine hK.out _ _ (by exact (hHeld.trans ho)) (fun hHeldN => ?_)
        clear hK K hHeld
        have hHeld := hHeldN
        clear hHeldN
        try simp only [List.getElem_toArray, List.getElem_cons_succ, List.getElem_cons_zero, Act.put, List.setIfInBounds_toArray, List.set_cons_zero, List.set_cons_succ]
        clear ho
        have HX6 := hide hHeld
        refine wpAnyH_take (i := 15) (v := ?_) rfl (by kernel_rfl) (by kernel_rfl) (by kernel_rfl) (fun _ _ _ h => h) (Or.inl ⟨by rfl, ?_⟩) (by assumption) ?_
        rotate_left
        · (intro w hSw; (try dsimp only at hSw); go_simp; try with_reducible rfl)
        try simp only [List.getElem_toArray, List.getElem_cons_succ, List.getElem_cons_zero, Act.put, List.setIfInBounds_toArray, List.set_cons_zero, List.set_cons_succ]
        refine wpAnyH_take (i := 16) (v := ?_) rfl (by kernel_rfl) (by kernel_rfl) (by kernel_rfl) (fun _ _ _ h => h) (Or.inl ⟨by rfl, ?_⟩) (by assumption) ?_
        rotate_left
        · (intro w hSw; (try dsimp only at hSw); go_simp; try with_reducible rfl)
        try simp only [List.getElem_toArray, List.getElem_cons_succ, List.getElem_cons_zero, Act.put, List.setIfInBounds_toArray, List.set_cons_zero, List.set_cons_succ]
        refine wpAnyH_done (by kernel_rfl) ?_ _
        clear c2
        go_wp2_with fail
        go_roundw
        case rel => exact ⟨k + 1, by omega, by go_num, ⟨t + 1, by go_num, hide HC2.out.symm, by omega⟩, hide HX6.out⟩
        case measure => simp [intOf]; omega
      · have hxb : (px == x) = false := by rw [beq_eq_false_iff_ne]; exact hx
        have HC2 := hide (of_off (x := x) HMK.out hx)
        have c2 := (HLL.out.only HX5.out (by simp)).cell HQ.out (show (rowC (.slice Aq pl.length cq, pl, pb, px))[2]? = some (.int .i64 px) from rfl)
        rw [← Nat.add_assoc] at c2
        clear hx
        go_wp2_with fail
        go_roundw
        case rel => exact ⟨k + 1, by omega, by go_num, ⟨t, rfl, hide (by rw [HC2.out]; exact HTC.out), by omega⟩, hide HX5.out⟩
        case measure => simp [intOf]; omega
    · obtain rfl : k = n := by omega
      have hge : ¬ (k : Int) < (k : Int) := by omega
      have hte : ((t : Int) == (no : Int)) = true := by
        rw [beq_iff_eq, HTC.out, HNO.out, HN.out, List.take_length]
      go_wp2_with fail
      go_ret
      exact ⟨rfl, HO3.out.trans HX.out⟩
end
end Go.Proofs.Ytokaobilphfdoaa

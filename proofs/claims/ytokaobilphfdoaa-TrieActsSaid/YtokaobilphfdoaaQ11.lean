/-
  Walks and plain words (texts Tx3). No condition beyond those that each theorem states.
-/
import Derived.Test.YtokaobilphfdoaaQ10
namespace Go.Proofs.Ytokaobilphfdoaa
section
open Go.RowKit Go.Deep

def PutRPost (N : List Nat) (l : List Rw) (w : World) (e : Ending) (w' : World) : Prop := ∃ v', e = .returned v' ∧ RowsRd 3 rowC w' N v' l ∧ Only [] w w'
theorem rds_one {w : World} {g : Nat} {t : TypeId} {p : PRw} (h : Blk w g t (rowC p).toArray) : RdS 3 rowC w [] (.slice (some ⟨g, 0, none⟩) 1 1) [p] := by
  refine ⟨_, 1, rfl, Nat.le_refl _, by unfold maxLen; omega, .inr ⟨g, 0, rfl, by simp, h.lt, fun i q hq j u hu => ?_⟩⟩
  obtain ⟨rfl, rfl⟩ : i = 0 ∧ p = q := by
    rcases i with _ | i
    · simp at hq; exact ⟨rfl, hq⟩
    · simp at hq
  rw [Nat.zero_mul, Nat.zero_add, Nat.zero_add, h.cell, List.getElem?_toArray]
  exact hu
theorem wpList_rows_append {W w0 : World} {ops : Array Oper} {rest : List Oper} {o : Oper} {a : Act} {Q : Exit → Act → World → Prop} (hgd : o.guard = none) (s x : Operand) (ho : o.op = .call { callee := .builtin .append, args := #[s, x], argTypes := #[27, 27] })
    (base : Nat) (v : Value) (ps qs : List PRw) (hs : a.eval s = v) (hown : OwnR W base v ps) (A : Option Addr) (m c : Nat) (hx : a.eval x = .slice A m c) (hr : RdS 3 rowC W [] (.slice A m c) qs) (hq : ∀ p ∈ qs, ∃ A n c, p.1 = .slice A n c)
    (hl : ps.length + qs.length ≤ 100000) (hb : base ≤ W.heap.size) (hO : Only [] w0 W) (hw0 : w0.heap.size ≤ base)
    (h : ∀ v' w', OwnR w' base v' (ps ++ qs) → Only [] w0 w' → base ≤ w'.heap.size → wpList Try.prog ops Q rest (a.put o.dst v') w') : wpList Try.prog ops Q (o :: rest) a W :=
  wpList_plain hgd fun _ hK => wp_rows_append s x ho base v ps qs hs hown A m c hx hr hq hl hb hO hw0 fun v' w' h1 h2 h3 _ => hK _ _ (h v' w' h1 h2 h3)
theorem rds_no {w : World} (A : Option Addr) (c : Nat) (hc : c ≤ maxLen) : RdS 3 rowC w [] (.slice A 0 c) [] := ⟨A, c, rfl, Nat.zero_le _, hc, .inl rfl⟩
theorem slice_end (A : Option Addr) (k c : Nat) (hk : k ≤ c) (hc : c ≤ maxLen) : ∃ A' c', c' ≤ maxLen ∧ ∀ W, (Instr.sliceAt 27 (.slice A k c) (some (.int .i64 (k : Int))) none none).run Try.prog W = .ok (.slice A' 0 c') W := by
  obtain ⟨i0, hi0, _, hz01, _⟩ := info_parts info_row8
  refine ⟨if c = k then A else A.map (·.add (k * 3)), c - k, by omega, fun W => ?_⟩
  have h := slice_from3 (P := Try.prog) 27 57 A k c k Try.underlying27 hi0 hz01 (Nat.le_refl k) hk W
  rw [Nat.sub_self] at h
  exact h
theorem drop_in {w : World} {N : List Nat} {l : List PRw} {g o n c i : Nat} (h : RdS 3 rowC w N (.slice (some ⟨g, o, none⟩) n c) l) (hi : i < n) : RdS 3 rowC w N (.slice (some ⟨g, o + i * 3, none⟩) (n - i) (c - i)) (l.drop i) := by
  have h1 := RdS.drop2 h (Nat.le_of_lt hi)
  obtain ⟨A', c', hv, hc, _, _⟩ := h
  injection hv with e1 e2 e3
  rw [if_neg (by omega), Option.map_some, add_mk] at h1
  exact h1
theorem while_at {P : Rw → Bool} : ∀ {l : List Rw} {k : Nat}, (∀ (j : Nat) (s : Rw), j < k → l[j]? = some s → P s = true) → (∀ s : Rw, l[k]? = some s → P s = false) → l.takeWhile P = l.take k ∧ l.dropWhile P = l.drop k
  | [], k, _, _ => by simp
  | a :: l, 0, _, h => by
    have ha := h a rfl
    rw [List.takeWhile_cons, List.dropWhile_cons, ha]
    exact ⟨rfl, rfl⟩
  | a :: l, k + 1, h1, h2 => by
    have ha := h1 0 a (Nat.succ_pos _) rfl
    obtain ⟨g1, g2⟩ := while_at (l := l) (k := k) (fun j s hj hs => h1 (j + 1) s (by omega) (by simpa using hs)) (fun s hs => h2 s (by simpa using hs))
    rw [List.takeWhile_cons, List.dropWhile_cons, ha]
    simp [g1, g2]
set_option maxRecDepth 100000 in
set_option maxHeartbeats 12800000 in
theorem refput_any (v pv0 : Value) (l0 : List Rw) (pl : List UInt8) (pb : Nat) (x : Int) (N : List Nat) (w : World) (hv : RowsRd 3 rowC w N v l0) (hp0 : Rd w N pv0 (ints .u8 (byts pl))) (hN : ∀ x ∈ N, x < w.heap.size) (hl : l0.length ≤ 1000) :
    Calls Try.prog 8 #[v, .agg #[pv0, .int .i64 pb], .int .i64 x] w (PutRPost N (putV l0 (pl, pb) x) w) := by
  have HO := hide ((Only.refl [] w).alloc (.cells #[pv0, .int .i64 pb] 29))
  have HB1 := hide (Blk.new w 29 #[pv0, .int .i64 pb])
  have HDEL := hide (refdel_any v pv0 l0 pl pb N (w.alloc (.cells #[pv0, .int .i64 pb] 29)) (hv.only HO.out (by simp)) (hp0.only HO.out (by simp)) (fun y hy => Nat.lt_of_lt_of_le (hN y hy) HO.out.size) hl)
  unfold DelRPost at HDEL
  have HNN := hide hN
  have HP0 := hide hp0
  have hll := delV_len l0 (pl, pb)
  have HLD := hide (show (delV l0 (pl, pb)).length ≤ 1000 from by omega)
  obtain ⟨A0, c0', rfl, _, _⟩ := hv.form
  obtain ⟨B, cb, rfl, _, _⟩ := hp0.formb
  have HPUT := hide (show putV l0 (pl, pb) x = (delV l0 (pl, pb)).takeWhile (fun r => befV (pf r) (pl, pb)) ++ (pl, pb, x) :: (delV l0 (pl, pb)).dropWhile (fun r => befV (pf r) (pl, pb)) from rfl)
  generalize delV l0 (pl, pb) = l at *
  clear hv hp0 hN hl hll
  go_enter Try.func8, Try.ntmps8
  go_upto_region 1 with (fail)
  generalize w.alloc (.cells #[.slice B pl.length cb, .int .i64 pb] 29) = w1 at *
  obtain ⟨G, hG⟩ : ∃ G, G = w.heap.size := ⟨_, rfl⟩
  rw [← hG] at HB1 ⊢
  clear hG
  have b0 := HB1.out.cell 0
  have b1 := HB1.out.cell 1
  simp at b0 b1
  go_wp2_with (go_at_call 10; refine HDEL.out.mono ?_; rintro e w2 ⟨v', rfl, hrr, ho⟩; obtain ⟨ps, hps, hrd, hrows⟩ := hrr; obtain ⟨A, c, rfl, hnc, hcm⟩ := hrd.form; have HPS := hide hps; have HRN := hide hrd; have HROWS := hide hrows; have HO2 := hide (HO.out.trans ho); have HBX := hide (HB1.out.only ho (by simp)); have HFORM := hide (rows_forms hrows); have HCM := hide hcm; clear hps hrows ho hcm)
  clear b0 b1
  obtain ⟨n, hn⟩ : ∃ n, n = ps.length := ⟨_, rfl⟩
  have HRD := hide (show RdS 3 rowC w2 [] (.slice A n c) ps from by
    rw [hn]
    obtain ⟨A', c', h1, h2, h3, h4⟩ := hrd
    exact ⟨A', c', h1, h2, h3, h4.imp id (fun ⟨g, o, e1, _, e2⟩ => ⟨g, o, e1, (by simp), e2⟩)⟩)
  rw [← hn] at hnc ⊢
  have HN := hide hn
  have HL1 := hide (show ps.length ≤ 1000 from by rw [← List.length_map (f := Prod.snd), HPS.out]; exact HLD.out)
  have hn1000 : n ≤ 1000 := by rw [hn]; exact HL1.out
  have HPV := hide ((HP0.out.only HO2.out (by simp)).less (N' := []) (by simp))
  have HNC := hide hnc
  clear hn hrd hnc
  go_loopw [7] (fun i wr => ∃ k : Nat, k ≤ n ∧ i = .int .i64 k ∧ Hid (∀ (j : Nat) (s : Rw), j < k → l[j]? = some s → befV (pf s) (pl, pb) = true) ∧ Hid (Only [] w2 wr)) (fun i _ => n - (intOf i).toNat)
  case atStart => exact ⟨0, Nat.zero_le _, rfl, hide (fun j s hj => absurd hj (Nat.not_lt_zero _)), hide (Only.refl [] w2)⟩
  case round =>
    obtain ⟨k, hk, rfl, HNO, HX⟩ := hrel
    by_cases hlt : k < n
    · have hltI : (k : Int) < (n : Int) := by omega
      obtain ⟨p, hp⟩ : ∃ p, ps[k]? = some p := ⟨_, List.getElem?_eq_getElem (by rw [← HN.out]; exact hlt)⟩
      obtain ⟨g, o, rfl, _, _⟩ := HRD.out.addr (by rw [← HN.out]; omega)
      have hlk : l[k]? = some p.2 := by rw [← HPS.out, List.getElem?_map, hp]; rfl
      have HLK := hide hlk
      have HPV2' := hide ((HROWS.out p (List.mem_of_getElem? hp)).less (N' := []) (by simp))
      obtain ⟨pv, pl2, pb2, px2⟩ := p
      simp only at HLK HPV2'
      have HPV2 := HPV2'
      obtain ⟨Ap, cp, rfl, _, _⟩ := HPV2'.out.formb
      clear hlk
      go_upto_region 3 with (fail)
      refine wp_region_held_drew (S := fun W' => Only [] w2 W') (by kernel_rfl) (by exact HX.out.drew) (fun hHeld => ?_)
      have HXd := hide (show Only [] w2 wr.drew from HX.out.drew)
      generalize wr.drew = wd3 at *
      refine wpAnyH_take (i := 0) (v := ?_) rfl (by kernel_rfl) (by kernel_rfl) (by kernel_rfl) (fun _ _ _ h => h) (Or.inl ⟨by rfl, ?_⟩) (by assumption) ?_
      rotate_left
      · (intro w hSw; (try dsimp only at hSw); go_simp; try with_reducible rfl)
      try simp only [List.getElem_toArray, List.getElem_cons_succ, List.getElem_cons_zero, Act.put, List.setIfInBounds_toArray, List.set_cons_zero, List.set_cons_succ]
      refine wpAnyH_take (i := 1) (v := ?_) rfl (by kernel_rfl) (by kernel_rfl) (by kernel_rfl) (fun _ _ _ h => h) (Or.inl ⟨by rfl, ?_⟩) (by assumption) ?_
      rotate_left
      · (intro w hSw; (try dsimp only at hSw); go_simp; try with_reducible rfl)
      try simp only [List.getElem_toArray, List.getElem_cons_succ, List.getElem_cons_zero, Act.put, List.setIfInBounds_toArray, List.set_cons_zero, List.set_cons_succ]
      refine wpAnyH_take (i := 2) (v := ?_) rfl (by kernel_rfl) (by kernel_rfl) (by kernel_rfl) (fun _ _ _ h => h) (Or.inl ⟨by rfl, ?_⟩) (by assumption) ?_
      rotate_left
      · (intro w hSw; (try dsimp only at hSw); go_simp; try with_reducible rfl)
      try simp only [List.getElem_toArray, List.getElem_cons_succ, List.getElem_cons_zero, Act.put, List.setIfInBounds_toArray, List.set_cons_zero, List.set_cons_succ]
      refine wpAnyH_take (i := 3) (v := ?_) rfl (by kernel_rfl) (by kernel_rfl) (by kernel_rfl) (fun _ _ _ h => h) (Or.inl ⟨by rfl, ?_⟩) (by assumption) ?_
      rotate_left
      · (intro w hSw; (try dsimp only at hSw); go_simp; try with_reducible rfl)
      try simp only [List.getElem_toArray, List.getElem_cons_succ, List.getElem_cons_zero, Act.put, List.setIfInBounds_toArray, List.set_cons_zero, List.set_cons_succ]
      refine wpAnyH_take (i := 4) (v := ?_) rfl (by kernel_rfl) (by kernel_rfl) (by kernel_rfl) (fun _ _ _ h => h) (Or.inl ⟨by rfl, ?_⟩) (by assumption) ?_
      rotate_left
      · (intro w hSw; (try dsimp only at hSw); go_simp; try with_reducible rfl)
      try simp only [List.getElem_toArray, List.getElem_cons_succ, List.getElem_cons_zero, Act.put, List.setIfInBounds_toArray, List.set_cons_zero, List.set_cons_succ]
      refine wpAnyH_take (i := 5) (v := ?_) rfl (by kernel_rfl) (by kernel_rfl) (by kernel_rfl) (fun _ _ _ h => h) (Or.inl ⟨by rfl, ?_⟩) (by assumption) ?_
      rotate_left
      · (intro w hSw; (try dsimp only at hSw); go_simp; try with_reducible rfl)
      try simp only [List.getElem_toArray, List.getElem_cons_succ, List.getElem_cons_zero, Act.put, List.setIfInBounds_toArray, List.set_cons_zero, List.set_cons_succ]
      refine wpAnyH_take (i := 6) (v := ?_) rfl (by kernel_rfl) (by kernel_rfl) (by kernel_rfl) (fun _ _ _ h => h) (Or.inl ⟨by rfl, ?_⟩) (by assumption) ?_
      rotate_left
      · (intro w hSw; (try dsimp only at hSw); go_simp; try with_reducible rfl)
      try simp only [List.getElem_toArray, List.getElem_cons_succ, List.getElem_cons_zero, Act.put, List.setIfInBounds_toArray, List.set_cons_zero, List.set_cons_succ]
      refine wpAnyH_take (i := 7) (v := ?_) rfl (by kernel_rfl) (by kernel_rfl) (by kernel_rfl) (fun _ _ _ h => h) (Or.inl ⟨by rfl, ?_⟩) (by assumption) ?_
      rotate_left
      · (intro w hSw; (try dsimp only at hSw); go_simp; try with_reducible rfl)
      try simp only [List.getElem_toArray, List.getElem_cons_succ, List.getElem_cons_zero, Act.put, List.setIfInBounds_toArray, List.set_cons_zero, List.set_cons_succ]
      refine wpAnyH_take (i := 8) (v := ?_) rfl (by kernel_rfl) (by kernel_rfl) (by kernel_rfl) (fun _ _ _ h => h) (Or.inl ⟨by rfl, ?_⟩) (by assumption) ?_
      rotate_left
      · (intro w hSw; (try dsimp only at hSw); go_simp; try with_reducible rfl)
      try simp only [List.getElem_toArray, List.getElem_cons_succ, List.getElem_cons_zero, Act.put, List.setIfInBounds_toArray, List.set_cons_zero, List.set_cons_succ]
      refine wpAnyH_take (i := 9) (v := ?_) rfl (by kernel_rfl) (by kernel_rfl) (by kernel_rfl) (fun _ _ _ h => h) (Or.inl ⟨by rfl, ?_⟩) (by assumption) ?_
      rotate_left
      · (intro w hSw; (try dsimp only at hSw); have f0 := (HRD.out.only hSw (by simp)).cell hp (show (rowC (.slice Ap pl2.length cp, pl2, pb2, px2))[0]? = some (.slice Ap pl2.length cp) from rfl); have f1 := (HRD.out.only hSw (by simp)).cell hp (show (rowC (.slice Ap pl2.length cp, pl2, pb2, px2))[1]? = some (.int .i64 pb2) from rfl); rw [Nat.add_zero] at f0; rw [← Nat.add_assoc] at f1; go_simp; try with_reducible rfl)
      try simp only [List.getElem_toArray, List.getElem_cons_succ, List.getElem_cons_zero, Act.put, List.setIfInBounds_toArray, List.set_cons_zero, List.set_cons_succ]
      refine wpAnyH_take (i := 10) (v := ?_) rfl (by kernel_rfl) (by kernel_rfl) (by kernel_rfl) (fun _ _ _ h => h) (Or.inl ⟨by rfl, ?_⟩) (by assumption) ?_
      rotate_left
      · (intro w hSw; (try dsimp only at hSw); have f0 := (HBX.out.only hSw (by simp)).cell 0; have f1 := (HBX.out.only hSw (by simp)).cell 1; simp at f0 f1; go_simp; try with_reducible rfl)
      try simp only [List.getElem_toArray, List.getElem_cons_succ, List.getElem_cons_zero, Act.put, List.setIfInBounds_toArray, List.set_cons_zero, List.set_cons_succ]
      refine wpAnyH_ready (rs := [11]) (by kernel_rfl) (by simp) ?_
      refine (AllReadyH.cons rfl (fun K hK => ?_) AllReadyH.nil)
      go_simp
      (go_at_call 20; refine (before_any _ _ pl2 pl pb2 pb wd3 (HPV2.out.only hHeld (by simp)) (HPV.out.only hHeld (by simp))).mono ?_; rintro e w5 ⟨rfl, ho⟩)
      refine hK.out _ _ (by exact (hHeld.trans ho)) (fun hHeldN => ?_)
      clear hK K hHeld
      have hHeld := hHeldN
      clear hHeldN
      try simp only [List.getElem_toArray, List.getElem_cons_succ, List.getElem_cons_zero, Act.put, List.setIfInBounds_toArray, List.set_cons_zero, List.set_cons_succ]
      clear ho
      have HX5 := hide hHeld
      refine wpAnyH_take (i := 12) (v := ?_) rfl (by kernel_rfl) (by kernel_rfl) (by kernel_rfl) (fun _ _ _ h => h) (Or.inl ⟨by rfl, ?_⟩) (by assumption) ?_
      rotate_left
      · (intro w hSw; (try dsimp only at hSw); go_simp; try with_reducible rfl)
      try simp only [List.getElem_toArray, List.getElem_cons_succ, List.getElem_cons_zero, Act.put, List.setIfInBounds_toArray, List.set_cons_zero, List.set_cons_succ]
      refine wpAnyH_done (by kernel_rfl) ?_ _
      cases hbf : befV (pl2, pb2) (pl, pb) with
      | true =>
        have HBF := hide hbf
        clear hbf
        go_wp2_with fail
        go_roundw
        case rel => exact ⟨k + 1, by omega, by go_num, hide (fun j s hj hs => by
          by_cases hjk : j = k
          · subst hjk; rw [HLK.out] at hs; injection hs with hs; subst hs; exact HBF.out
          · exact HNO.out j s (by omega) hs), hide HX5.out⟩
        case measure => simp [intOf]; omega
      | false =>
        obtain ⟨h1, h2⟩ := while_at (l := l) (k := k) (P := fun r => befV (pf r) (pl, pb)) HNO.out (fun s hs => by rw [HLK.out] at hs; injection hs with hs; subst hs; exact hbf)
        have HE1 := hide h1
        have HE2 := hide h2
        have HKN := hide hk
        have HLT := hide hlt
        have HKC := hide (show k ≤ c from by have := HNC.out; omega)
        have hknI : (k : Int) ≤ (n : Int) := by omega
        clear h1 h2 hbf
        go_upto_region 5 with (fail)
        refine wp_region_held_drew (S := fun W' => Only [] w2 W') (by kernel_rfl) (by exact HX5.out.drew) (fun hHeld => ?_)
        have HD := hide (show Only [] w2 w5.drew from HX5.out.drew)
        generalize w5.drew = a0 at *
        refine wpAnyH_take (i := 1) (v := ?_) rfl (by kernel_rfl) (by kernel_rfl) (by kernel_rfl) (fun _ _ _ h => h) (Or.inl ⟨by rfl, ?_⟩) (by assumption) ?_
        rotate_left
        · (intro w hSw; (try dsimp only at hSw); go_simp; try with_reducible rfl)
        try simp only [List.getElem_toArray, List.getElem_cons_succ, List.getElem_cons_zero, Act.put, List.setIfInBounds_toArray, List.set_cons_zero, List.set_cons_succ]
        refine wpAnyH_take (i := 2) (v := ?_) rfl (by kernel_rfl) (by kernel_rfl) (by kernel_rfl) (fun _ _ _ h => h) (Or.inl ⟨by rfl, ?_⟩) (by assumption) ?_
        rotate_left
        · (intro w hSw; (try dsimp only at hSw); go_simp; try with_reducible rfl)
        try simp only [List.getElem_toArray, List.getElem_cons_succ, List.getElem_cons_zero, Act.put, List.setIfInBounds_toArray, List.set_cons_zero, List.set_cons_succ]
        refine wpAnyH_take (i := 3) (v := ?_) rfl (by kernel_rfl) (by kernel_rfl) (by kernel_rfl) (fun _ _ _ h => h) (Or.inl ⟨by rfl, ?_⟩) (by assumption) ?_
        rotate_left
        · (intro w hSw; (try dsimp only at hSw); have hkc := HKC.out; go_simp; try with_reducible rfl)
        try simp only [List.getElem_toArray, List.getElem_cons_succ, List.getElem_cons_zero, Act.put, List.setIfInBounds_toArray, List.set_cons_zero, List.set_cons_succ]
        refine wpAnyH_take (i := 5) (v := ?_) rfl (by kernel_rfl) (by kernel_rfl) (by kernel_rfl) (fun _ _ _ h => h) (Or.inl ⟨by rfl, ?_⟩) (by assumption) ?_
        rotate_left
        · (intro w hSw; (try dsimp only at hSw); have f0 := (HBX.out.only hSw (by simp)).cell 0; have f1 := (HBX.out.only hSw (by simp)).cell 1; simp at f0 f1; go_simp; try with_reducible rfl)
        try simp only [List.getElem_toArray, List.getElem_cons_succ, List.getElem_cons_zero, Act.put, List.setIfInBounds_toArray, List.set_cons_zero, List.set_cons_succ]
        refine wpAnyH_take (i := 6) (v := ?_) rfl (by kernel_rfl) (by kernel_rfl) (by kernel_rfl) (fun _ _ _ h => h) (Or.inl ⟨by rfl, ?_⟩) (by assumption) ?_
        rotate_left
        · (intro w hSw; (try dsimp only at hSw); go_simp; try with_reducible rfl)
        try simp only [List.getElem_toArray, List.getElem_cons_succ, List.getElem_cons_zero, Act.put, List.setIfInBounds_toArray, List.set_cons_zero, List.set_cons_succ]
        refine wpAnyH_take (i := 7) (v := ?_) rfl (by kernel_rfl) (by kernel_rfl) (by kernel_rfl) (fun _ _ _ h => h) (Or.inl ⟨by rfl, ?_⟩) (by assumption) ?_
        rotate_left
        · (intro w hSw; (try dsimp only at hSw); go_simp; try with_reducible rfl)
        try simp only [List.getElem_toArray, List.getElem_cons_succ, List.getElem_cons_zero, Act.put, List.setIfInBounds_toArray, List.set_cons_zero, List.set_cons_succ]
        refine wpAnyH_ready (rs := [0, 8]) (by kernel_rfl) (by simp) ?_
        refine (AllReadyH.cons rfl (fun K hK => ?_) (AllReadyH.cons rfl (fun K hK => ?_) AllReadyH.nil))
        · go_simp
          have HDn := hide (HD.out.alloc (.cells #[] 57))
          have HOWn := hide (ownR_empty a0 w2.heap.size HD.out.size)
          refine hK.out _ _ (by exact hHeld.alloc _) (fun hHeldN => ?_)
          clear hK K hHeld HD
          have hHeld := hHeldN
          have HD := HDn
          clear hHeldN HDn
          have HOW := HOWn
          clear HOWn
          generalize a0.alloc (.cells #[] 57) = a1 at *
          generalize a0.heap.size = G7 at *
          try simp only [List.getElem_toArray, List.getElem_cons_succ, List.getElem_cons_zero, Act.put, List.setIfInBounds_toArray, List.set_cons_zero, List.set_cons_succ]
          refine wpAnyH_ready (rs := [4, 8]) (by kernel_rfl) (by simp) ?_
          refine (AllReadyH.cons rfl (fun K hK => ?_) (AllReadyH.cons rfl (fun K hK => ?_) AllReadyH.nil))
          · rw [if_pos (by rfl)]
            refine wp_rows_append (W := a1) (w0 := w2) _ _ rfl w2.heap.size (.slice (some ⟨G7, 0, none⟩) 0 0) [] (ps.take k) rfl HOW.out _ _ _ rfl ((HRD.out.only HD.out (by simp)).take2 HKN.out) (fun p hp => HFORM.out p (List.mem_of_mem_take hp)) (by rw [List.length_take]; have := HL1.out; simp only [List.length_nil]; omega) HD.out.size HD.out (Nat.le_refl _) ?_
            intro vn wn hown hon hsn hkeep
            have HOWn := hide hown
            have HDn := hide hon
            obtain ⟨A7, c7, hvn, _, _⟩ := own_form hown
            generalize ([] ++ (ps.take k)).length = n7 at hvn
            subst hvn
            clear hown hon hsn hkeep
            refine hK.out _ _ (by exact HDn.out) (fun hHeldN => ?_)
            clear hK K hHeld HD HOW
            have hHeld := hHeldN
            have HD := HDn
            have HOW := HOWn
            clear hHeldN HDn HOWn
            obtain ⟨a2, hwn⟩ : ∃ z, z = wn := ⟨_, rfl⟩
            subst hwn
            try simp only [List.getElem_toArray, List.getElem_cons_succ, List.getElem_cons_zero, Act.put, List.setIfInBounds_toArray, List.set_cons_zero, List.set_cons_succ]
            refine wpAnyH_ready (rs := [8]) (by kernel_rfl) (by simp) ?_
            refine (AllReadyH.cons rfl (fun K hK => ?_) AllReadyH.nil)
            go_simp
            have HDn := hide (HD.out.alloc (.cells #[.slice B pl.length cb, .int .i64 pb, .int .i64 x] 57))
            have HOWn := hide (HOW.out.only ((Only.refl [] a2).alloc (.cells #[.slice B pl.length cb, .int .i64 pb, .int .i64 x] 57)))
            have HNE := hide (show (Value.slice A7 n7 c7).ownBlock ≠ some a2.heap.size from fun e => by have := own_lt HOW.out e; omega)
            have HXBn := hide (Blk.new a2 57 #[.slice B pl.length cb, .int .i64 pb, .int .i64 x])
            refine hK.out _ _ (by exact hHeld.alloc _) (fun hHeldN => ?_)
            clear hK K hHeld HD
            have hHeld := hHeldN
            have HD := HDn
            clear hHeldN HDn
            clear HOW
            have HOW := HOWn
            clear HOWn
            have HXB := HXBn
            clear HXBn
            generalize a2.alloc (.cells #[.slice B pl.length cb, .int .i64 pb, .int .i64 x] 57) = a3 at *
            generalize a2.heap.size = GX at *
            try simp only [List.getElem_toArray, List.getElem_cons_succ, List.getElem_cons_zero, Act.put, List.setIfInBounds_toArray, List.set_cons_zero, List.set_cons_succ]
            refine wpAnyH_ready (rs := [9]) (by kernel_rfl) (by simp) ?_
            refine (AllReadyH.cons rfl (fun K hK => ?_) AllReadyH.nil)
            rw [if_pos (by rfl)]
            refine wp_rows_append (W := a3) (w0 := w2) _ _ rfl w2.heap.size (.slice A7 n7 c7) ([] ++ ps.take k) [(Value.slice B pl.length cb, pl, pb, x)] rfl HOW.out _ _ _ rfl (rds_one HXB.out) (fun p hp => by simp at hp; subst hp; exact ⟨_, _, _, rfl⟩) (by rw [List.nil_append, List.length_take]; have := HL1.out; simp only [List.length_singleton]; omega) HD.out.size HD.out (Nat.le_refl _) ?_
            intro vn wn hown hon hsn hkeep
            have HOWn := hide hown
            have HDn := hide hon
            obtain ⟨A9, c9, hvn, _, _⟩ := own_form hown
            generalize (([] ++ ps.take k) ++ [(Value.slice B pl.length cb, pl, pb, x)]).length = n9 at hvn
            subst hvn
            clear hown hon hsn hkeep
            refine hK.out _ _ (by exact HDn.out) (fun hHeldN => ?_)
            clear hK K hHeld HD HOW
            have hHeld := hHeldN
            have HD := HDn
            have HOW := HOWn
            clear hHeldN HDn HOWn
            obtain ⟨a4, hwn⟩ : ∃ z, z = wn := ⟨_, rfl⟩
            subst hwn
            try simp only [List.getElem_toArray, List.getElem_cons_succ, List.getElem_cons_zero, Act.put, List.setIfInBounds_toArray, List.set_cons_zero, List.set_cons_succ]
            refine wpAnyH_take (i := 10) (v := ?_) rfl (by kernel_rfl) (by kernel_rfl) (by kernel_rfl) (fun _ _ _ h => h) (Or.inl ⟨by rfl, ?_⟩) (by assumption) ?_
            rotate_left
            · (intro w hSw; (try dsimp only at hSw); go_simp; try with_reducible rfl)
            try simp only [List.getElem_toArray, List.getElem_cons_succ, List.getElem_cons_zero, Act.put, List.setIfInBounds_toArray, List.set_cons_zero, List.set_cons_succ]
            refine wpAnyH_done (by kernel_rfl) ?_ _
            have HPOST := hide (fun v' w' (h1 : OwnR w' w2.heap.size v' (([] ++ ps.take k ++ [(Value.slice B pl.length cb, pl, pb, x)]) ++ ps.drop k)) (h2 : Only [] w2 w') => show PutRPost N (putV l0 (pl, pb) x) w (.returned v') w' from by
              refine ⟨v', rfl, ?_, HO2.out.trans h2⟩
              rw [HPUT.out, HE1.out, HE2.out]
              refine ⟨ps.take k ++ [(Value.slice B pl.length cb, pl, pb, x)] ++ ps.drop k, by rw [List.map_append, List.map_append, List.map_take, List.map_drop, HPS.out]; simp, (by simpa using h1.rd (fun y hy => Nat.lt_of_lt_of_le (HNN.out y hy) HO2.out.size)), fun p hp => ?_⟩
              rcases List.mem_append.1 hp with hp | hp
              · rcases List.mem_append.1 hp with hp | hp
                · exact (HROWS.out p (List.mem_of_mem_take hp)).only h2 (by simp)
                · obtain rfl : p = (Value.slice B pl.length cb, pl, pb, x) := by simpa using hp
                  exact HP0.out.only (HO2.out.trans h2) (by simp)
              · exact (HROWS.out p (List.mem_of_mem_drop hp)).only h2 (by simp))
            have hn0 : (0 : Int) ≤ (k : Int) := by omega
            have hnc := HNC.out
            clear hn1000
            go_wp2_with (at_builtin; refine wpList_rows_append (W := a4) (w0 := w2) rfl _ _ rfl w2.heap.size (.slice A9 n9 c9) ([] ++ ps.take k ++ [(Value.slice B pl.length cb, pl, pb, x)]) (ps.drop k) rfl HOW.out _ _ _ rfl (drop_in (HRD.out.only HD.out (by simp)) HLT.out) (fun p hp => HFORM.out p (List.mem_of_mem_drop hp)) (by simp only [List.nil_append, List.length_append, List.length_take, List.length_drop, List.length_singleton, List.length_nil]; have := HL1.out; omega) HD.out.size HD.out (Nat.le_refl _) ?_; intro v' w' h1 h2 _; have HFIN := hide (HPOST.out v' w' h1 h2); clear h1 h2)
            go_ret
            exact HFIN.out
          · go_simp
            have HDn := hide (HD.out.alloc (.cells #[.slice B pl.length cb, .int .i64 pb, .int .i64 x] 57))
            have HOWn := hide (HOW.out.only ((Only.refl [] a1).alloc (.cells #[.slice B pl.length cb, .int .i64 pb, .int .i64 x] 57)))
            have HNE := hide (show (Value.slice (some ⟨G7, 0, none⟩) 0 0).ownBlock ≠ some a1.heap.size from fun e => by have := own_lt HOW.out e; omega)
            have HXBn := hide (Blk.new a1 57 #[.slice B pl.length cb, .int .i64 pb, .int .i64 x])
            refine hK.out _ _ (by exact hHeld.alloc _) (fun hHeldN => ?_)
            clear hK K hHeld HD
            have hHeld := hHeldN
            have HD := HDn
            clear hHeldN HDn
            clear HOW
            have HOW := HOWn
            clear HOWn
            have HXB := HXBn
            clear HXBn
            generalize a1.alloc (.cells #[.slice B pl.length cb, .int .i64 pb, .int .i64 x] 57) = a2 at *
            generalize a1.heap.size = GX at *
            try simp only [List.getElem_toArray, List.getElem_cons_succ, List.getElem_cons_zero, Act.put, List.setIfInBounds_toArray, List.set_cons_zero, List.set_cons_succ]
            refine wpAnyH_ready (rs := [4]) (by kernel_rfl) (by simp) ?_
            refine (AllReadyH.cons rfl (fun K hK => ?_) AllReadyH.nil)
            rw [if_pos (by rfl)]
            refine wp_rows_append (W := a2) (w0 := w2) _ _ rfl w2.heap.size (.slice (some ⟨G7, 0, none⟩) 0 0) [] (ps.take k) rfl HOW.out _ _ _ rfl ((HRD.out.only HD.out (by simp)).take2 HKN.out) (fun p hp => HFORM.out p (List.mem_of_mem_take hp)) (by rw [List.length_take]; have := HL1.out; simp only [List.length_nil]; omega) HD.out.size HD.out (Nat.le_refl _) ?_
            intro vn wn hown hon hsn hkeep
            have HOWn := hide hown
            have HDn := hide hon
            have HXBn := hide (hkeep GX _ _ HNE.out HXB.out).1
            have HNEn := hide (hkeep GX _ _ HNE.out HXB.out).2
            obtain ⟨A7, c7, hvn, _, _⟩ := own_form hown
            generalize ([] ++ (ps.take k)).length = n7 at hvn
            subst hvn
            clear hown hon hsn hkeep
            refine hK.out _ _ (by exact HDn.out) (fun hHeldN => ?_)
            clear hK K hHeld HD HOW
            have hHeld := hHeldN
            have HD := HDn
            have HOW := HOWn
            clear hHeldN HDn HOWn
            clear HXB HNE
            have HXB := HXBn
            have HNE := HNEn
            clear HXBn HNEn
            obtain ⟨a3, hwn⟩ : ∃ z, z = wn := ⟨_, rfl⟩
            subst hwn
            try simp only [List.getElem_toArray, List.getElem_cons_succ, List.getElem_cons_zero, Act.put, List.setIfInBounds_toArray, List.set_cons_zero, List.set_cons_succ]
            refine wpAnyH_ready (rs := [9]) (by kernel_rfl) (by simp) ?_
            refine (AllReadyH.cons rfl (fun K hK => ?_) AllReadyH.nil)
            rw [if_pos (by rfl)]
            refine wp_rows_append (W := a3) (w0 := w2) _ _ rfl w2.heap.size (.slice A7 n7 c7) ([] ++ ps.take k) [(Value.slice B pl.length cb, pl, pb, x)] rfl HOW.out _ _ _ rfl (rds_one HXB.out) (fun p hp => by simp at hp; subst hp; exact ⟨_, _, _, rfl⟩) (by rw [List.nil_append, List.length_take]; have := HL1.out; simp only [List.length_singleton]; omega) HD.out.size HD.out (Nat.le_refl _) ?_
            intro vn wn hown hon hsn hkeep
            have HOWn := hide hown
            have HDn := hide hon
            obtain ⟨A9, c9, hvn, _, _⟩ := own_form hown
            generalize (([] ++ ps.take k) ++ [(Value.slice B pl.length cb, pl, pb, x)]).length = n9 at hvn
            subst hvn
            clear hown hon hsn hkeep
            refine hK.out _ _ (by exact HDn.out) (fun hHeldN => ?_)
            clear hK K hHeld HD HOW
            have hHeld := hHeldN
            have HD := HDn
            have HOW := HOWn
            clear hHeldN HDn HOWn
            obtain ⟨a4, hwn⟩ : ∃ z, z = wn := ⟨_, rfl⟩
            subst hwn
            try simp only [List.getElem_toArray, List.getElem_cons_succ, List.getElem_cons_zero, Act.put, List.setIfInBounds_toArray, List.set_cons_zero, List.set_cons_succ]
            refine wpAnyH_take (i := 10) (v := ?_) rfl (by kernel_rfl) (by kernel_rfl) (by kernel_rfl) (fun _ _ _ h => h) (Or.inl ⟨by rfl, ?_⟩) (by assumption) ?_
            rotate_left
            · (intro w hSw; (try dsimp only at hSw); go_simp; try with_reducible rfl)
            try simp only [List.getElem_toArray, List.getElem_cons_succ, List.getElem_cons_zero, Act.put, List.setIfInBounds_toArray, List.set_cons_zero, List.set_cons_succ]
            refine wpAnyH_done (by kernel_rfl) ?_ _
            have HPOST := hide (fun v' w' (h1 : OwnR w' w2.heap.size v' (([] ++ ps.take k ++ [(Value.slice B pl.length cb, pl, pb, x)]) ++ ps.drop k)) (h2 : Only [] w2 w') => show PutRPost N (putV l0 (pl, pb) x) w (.returned v') w' from by
              refine ⟨v', rfl, ?_, HO2.out.trans h2⟩
              rw [HPUT.out, HE1.out, HE2.out]
              refine ⟨ps.take k ++ [(Value.slice B pl.length cb, pl, pb, x)] ++ ps.drop k, by rw [List.map_append, List.map_append, List.map_take, List.map_drop, HPS.out]; simp, (by simpa using h1.rd (fun y hy => Nat.lt_of_lt_of_le (HNN.out y hy) HO2.out.size)), fun p hp => ?_⟩
              rcases List.mem_append.1 hp with hp | hp
              · rcases List.mem_append.1 hp with hp | hp
                · exact (HROWS.out p (List.mem_of_mem_take hp)).only h2 (by simp)
                · obtain rfl : p = (Value.slice B pl.length cb, pl, pb, x) := by simpa using hp
                  exact HP0.out.only (HO2.out.trans h2) (by simp)
              · exact (HROWS.out p (List.mem_of_mem_drop hp)).only h2 (by simp))
            have hn0 : (0 : Int) ≤ (k : Int) := by omega
            have hnc := HNC.out
            clear hn1000
            go_wp2_with (at_builtin; refine wpList_rows_append (W := a4) (w0 := w2) rfl _ _ rfl w2.heap.size (.slice A9 n9 c9) ([] ++ ps.take k ++ [(Value.slice B pl.length cb, pl, pb, x)]) (ps.drop k) rfl HOW.out _ _ _ rfl (drop_in (HRD.out.only HD.out (by simp)) HLT.out) (fun p hp => HFORM.out p (List.mem_of_mem_drop hp)) (by simp only [List.nil_append, List.length_append, List.length_take, List.length_drop, List.length_singleton, List.length_nil]; have := HL1.out; omega) HD.out.size HD.out (Nat.le_refl _) ?_; intro v' w' h1 h2 _; have HFIN := hide (HPOST.out v' w' h1 h2); clear h1 h2)
            go_ret
            exact HFIN.out
        · go_simp
          have HDn := hide (HD.out.alloc (.cells #[.slice B pl.length cb, .int .i64 pb, .int .i64 x] 57))
          have HXBn := hide (Blk.new a0 57 #[.slice B pl.length cb, .int .i64 pb, .int .i64 x])
          refine hK.out _ _ (by exact hHeld.alloc _) (fun hHeldN => ?_)
          clear hK K hHeld HD
          have hHeld := hHeldN
          have HD := HDn
          clear hHeldN HDn
          have HXB := HXBn
          clear HXBn
          generalize a0.alloc (.cells #[.slice B pl.length cb, .int .i64 pb, .int .i64 x] 57) = a1 at *
          generalize a0.heap.size = GX at *
          try simp only [List.getElem_toArray, List.getElem_cons_succ, List.getElem_cons_zero, Act.put, List.setIfInBounds_toArray, List.set_cons_zero, List.set_cons_succ]
          refine wpAnyH_ready (rs := [0]) (by kernel_rfl) (by simp) ?_
          refine (AllReadyH.cons rfl (fun K hK => ?_) AllReadyH.nil)
          go_simp
          have HDn := hide (HD.out.alloc (.cells #[] 57))
          have HXBn := hide (HXB.out.alloc (.cells #[] 57))
          have HOWn := hide (ownR_empty a1 w2.heap.size HD.out.size)
          have HNE := hide (show (Value.slice (some ⟨a1.heap.size, 0, none⟩) 0 0).ownBlock ≠ some GX from fun e => by have := HXB.out.lt; simp [Value.ownBlock] at e; omega)
          refine hK.out _ _ (by exact hHeld.alloc _) (fun hHeldN => ?_)
          clear hK K hHeld HD
          have hHeld := hHeldN
          have HD := HDn
          clear hHeldN HDn
          have HOW := HOWn
          clear HOWn
          clear HXB
          have HXB := HXBn
          clear HXBn
          generalize a1.alloc (.cells #[] 57) = a2 at *
          generalize a1.heap.size = G7 at *
          try simp only [List.getElem_toArray, List.getElem_cons_succ, List.getElem_cons_zero, Act.put, List.setIfInBounds_toArray, List.set_cons_zero, List.set_cons_succ]
          refine wpAnyH_ready (rs := [4]) (by kernel_rfl) (by simp) ?_
          refine (AllReadyH.cons rfl (fun K hK => ?_) AllReadyH.nil)
          rw [if_pos (by rfl)]
          refine wp_rows_append (W := a2) (w0 := w2) _ _ rfl w2.heap.size (.slice (some ⟨G7, 0, none⟩) 0 0) [] (ps.take k) rfl HOW.out _ _ _ rfl ((HRD.out.only HD.out (by simp)).take2 HKN.out) (fun p hp => HFORM.out p (List.mem_of_mem_take hp)) (by rw [List.length_take]; have := HL1.out; simp only [List.length_nil]; omega) HD.out.size HD.out (Nat.le_refl _) ?_
          intro vn wn hown hon hsn hkeep
          have HOWn := hide hown
          have HDn := hide hon
          have HXBn := hide (hkeep GX _ _ HNE.out HXB.out).1
          have HNEn := hide (hkeep GX _ _ HNE.out HXB.out).2
          obtain ⟨A7, c7, hvn, _, _⟩ := own_form hown
          generalize ([] ++ (ps.take k)).length = n7 at hvn
          subst hvn
          clear hown hon hsn hkeep
          refine hK.out _ _ (by exact HDn.out) (fun hHeldN => ?_)
          clear hK K hHeld HD HOW
          have hHeld := hHeldN
          have HD := HDn
          have HOW := HOWn
          clear hHeldN HDn HOWn
          clear HXB HNE
          have HXB := HXBn
          have HNE := HNEn
          clear HXBn HNEn
          obtain ⟨a3, hwn⟩ : ∃ z, z = wn := ⟨_, rfl⟩
          subst hwn
          try simp only [List.getElem_toArray, List.getElem_cons_succ, List.getElem_cons_zero, Act.put, List.setIfInBounds_toArray, List.set_cons_zero, List.set_cons_succ]
          refine wpAnyH_ready (rs := [9]) (by kernel_rfl) (by simp) ?_
          refine (AllReadyH.cons rfl (fun K hK => ?_) AllReadyH.nil)
          rw [if_pos (by rfl)]
          refine wp_rows_append (W := a3) (w0 := w2) _ _ rfl w2.heap.size (.slice A7 n7 c7) ([] ++ ps.take k) [(Value.slice B pl.length cb, pl, pb, x)] rfl HOW.out _ _ _ rfl (rds_one HXB.out) (fun p hp => by simp at hp; subst hp; exact ⟨_, _, _, rfl⟩) (by rw [List.nil_append, List.length_take]; have := HL1.out; simp only [List.length_singleton]; omega) HD.out.size HD.out (Nat.le_refl _) ?_
          intro vn wn hown hon hsn hkeep
          have HOWn := hide hown
          have HDn := hide hon
          obtain ⟨A9, c9, hvn, _, _⟩ := own_form hown
          generalize (([] ++ ps.take k) ++ [(Value.slice B pl.length cb, pl, pb, x)]).length = n9 at hvn
          subst hvn
          clear hown hon hsn hkeep
          refine hK.out _ _ (by exact HDn.out) (fun hHeldN => ?_)
          clear hK K hHeld HD HOW
          have hHeld := hHeldN
          have HD := HDn
          have HOW := HOWn
          clear hHeldN HDn HOWn
          obtain ⟨a4, hwn⟩ : ∃ z, z = wn := ⟨_, rfl⟩
          subst hwn
          try simp only [List.getElem_toArray, List.getElem_cons_succ, List.getElem_cons_zero, Act.put, List.setIfInBounds_toArray, List.set_cons_zero, List.set_cons_succ]
          refine wpAnyH_take (i := 10) (v := ?_) rfl (by kernel_rfl) (by kernel_rfl) (by kernel_rfl) (fun _ _ _ h => h) (Or.inl ⟨by rfl, ?_⟩) (by assumption) ?_
          rotate_left
          · (intro w hSw; (try dsimp only at hSw); go_simp; try with_reducible rfl)
          try simp only [List.getElem_toArray, List.getElem_cons_succ, List.getElem_cons_zero, Act.put, List.setIfInBounds_toArray, List.set_cons_zero, List.set_cons_succ]
          refine wpAnyH_done (by kernel_rfl) ?_ _
          have HPOST := hide (fun v' w' (h1 : OwnR w' w2.heap.size v' (([] ++ ps.take k ++ [(Value.slice B pl.length cb, pl, pb, x)]) ++ ps.drop k)) (h2 : Only [] w2 w') => show PutRPost N (putV l0 (pl, pb) x) w (.returned v') w' from by
            refine ⟨v', rfl, ?_, HO2.out.trans h2⟩
            rw [HPUT.out, HE1.out, HE2.out]
            refine ⟨ps.take k ++ [(Value.slice B pl.length cb, pl, pb, x)] ++ ps.drop k, by rw [List.map_append, List.map_append, List.map_take, List.map_drop, HPS.out]; simp, (by simpa using h1.rd (fun y hy => Nat.lt_of_lt_of_le (HNN.out y hy) HO2.out.size)), fun p hp => ?_⟩
            rcases List.mem_append.1 hp with hp | hp
            · rcases List.mem_append.1 hp with hp | hp
              · exact (HROWS.out p (List.mem_of_mem_take hp)).only h2 (by simp)
              · obtain rfl : p = (Value.slice B pl.length cb, pl, pb, x) := by simpa using hp
                exact HP0.out.only (HO2.out.trans h2) (by simp)
            · exact (HROWS.out p (List.mem_of_mem_drop hp)).only h2 (by simp))
          have hn0 : (0 : Int) ≤ (k : Int) := by omega
          have hnc := HNC.out
          clear hn1000
          go_wp2_with (at_builtin; refine wpList_rows_append (W := a4) (w0 := w2) rfl _ _ rfl w2.heap.size (.slice A9 n9 c9) ([] ++ ps.take k ++ [(Value.slice B pl.length cb, pl, pb, x)]) (ps.drop k) rfl HOW.out _ _ _ rfl (drop_in (HRD.out.only HD.out (by simp)) HLT.out) (fun p hp => HFORM.out p (List.mem_of_mem_drop hp)) (by simp only [List.nil_append, List.length_append, List.length_take, List.length_drop, List.length_singleton, List.length_nil]; have := HL1.out; omega) HD.out.size HD.out (Nat.le_refl _) ?_; intro v' w' h1 h2 _; have HFIN := hide (HPOST.out v' w' h1 h2); clear h1 h2)
          go_ret
          exact HFIN.out
    · obtain rfl : k = n := by omega
      have hge : ¬ (k : Int) < (k : Int) := by omega
      obtain ⟨h1, h2⟩ := while_at (l := l) (k := k) (P := fun r => befV (pf r) (pl, pb)) HNO.out (fun s hs => by
        have h := (List.getElem?_eq_some_iff.1 hs).1
        rw [← HPS.out, List.length_map] at h
        have h3 := HN.out
        omega)
      have HE1 := hide h1
      have HE2 := hide h2
      have HKN := hide (Nat.le_refl k)
      have HDN := hide (show ps.drop k = [] from List.drop_eq_nil_of_le (Nat.le_of_eq HN.out.symm))
      have HKC := hide (show k ≤ c from HNC.out)
      have hknI : (k : Int) ≤ (k : Int) := Int.le_refl _
      clear h1 h2 hk hlt
      go_upto_region 3 with (fail)
      refine wp_region_held_drew (S := fun W' => Only [] w2 W') (by kernel_rfl) (by exact HX.out.drew) (fun hHeld => ?_)
      have HXd := hide (show Only [] w2 wr.drew from HX.out.drew)
      generalize wr.drew = wd3 at *
      refine wpAnyH_take (i := 0) (v := ?_) rfl (by kernel_rfl) (by kernel_rfl) (by kernel_rfl) (fun _ _ _ h => h) (Or.inl ⟨by rfl, ?_⟩) (by assumption) ?_
      rotate_left
      · (intro w hSw; (try dsimp only at hSw); go_simp; try with_reducible rfl)
      try simp only [List.getElem_toArray, List.getElem_cons_succ, List.getElem_cons_zero, Act.put, List.setIfInBounds_toArray, List.set_cons_zero, List.set_cons_succ]
      refine wpAnyH_take (i := 1) (v := ?_) rfl (by kernel_rfl) (by kernel_rfl) (by kernel_rfl) (fun _ _ _ h => h) (Or.inl ⟨by rfl, ?_⟩) (by assumption) ?_
      rotate_left
      · (intro w hSw; (try dsimp only at hSw); go_simp; try with_reducible rfl)
      try simp only [List.getElem_toArray, List.getElem_cons_succ, List.getElem_cons_zero, Act.put, List.setIfInBounds_toArray, List.set_cons_zero, List.set_cons_succ]
      refine wpAnyH_take (i := 2) (v := ?_) rfl (by kernel_rfl) (by kernel_rfl) (by kernel_rfl) (fun _ _ _ h => h) (Or.inl ⟨by rfl, ?_⟩) (by assumption) ?_
      rotate_left
      · (intro w hSw; (try dsimp only at hSw); go_simp; try with_reducible rfl)
      try simp only [List.getElem_toArray, List.getElem_cons_succ, List.getElem_cons_zero, Act.put, List.setIfInBounds_toArray, List.set_cons_zero, List.set_cons_succ]
      refine wpAnyH_take (i := 3) (v := ?_) rfl (by kernel_rfl) (by kernel_rfl) (by kernel_rfl) (fun _ _ _ h => h) (Or.inl ⟨by rfl, ?_⟩) (by assumption) ?_
      rotate_left
      · (intro w hSw; (try dsimp only at hSw); go_simp; try with_reducible rfl)
      try simp only [List.getElem_toArray, List.getElem_cons_succ, List.getElem_cons_zero, Act.put, List.setIfInBounds_toArray, List.set_cons_zero, List.set_cons_succ]
      refine wpAnyH_take (i := 4) (v := ?_) rfl (by kernel_rfl) (by kernel_rfl) (by kernel_rfl) (fun _ _ _ h => h) (Or.inl ⟨by rfl, ?_⟩) (by assumption) ?_
      rotate_left
      · (intro w hSw; (try dsimp only at hSw); go_simp; try with_reducible rfl)
      try simp only [List.getElem_toArray, List.getElem_cons_succ, List.getElem_cons_zero, Act.put, List.setIfInBounds_toArray, List.set_cons_zero, List.set_cons_succ]
      refine wpAnyH_take (i := 5) (v := undef) rfl (by kernel_rfl) (by kernel_rfl) (by kernel_rfl) (fun _ _ _ h => h) (Or.inr ⟨by rfl, rfl⟩) (by assumption) ?_
      try simp only [List.getElem_toArray, List.getElem_cons_succ, List.getElem_cons_zero, Act.put, List.setIfInBounds_toArray, List.set_cons_zero, List.set_cons_succ]
      refine wpAnyH_take (i := 6) (v := undef) rfl (by kernel_rfl) (by kernel_rfl) (by kernel_rfl) (fun _ _ _ h => h) (Or.inr ⟨by rfl, rfl⟩) (by assumption) ?_
      try simp only [List.getElem_toArray, List.getElem_cons_succ, List.getElem_cons_zero, Act.put, List.setIfInBounds_toArray, List.set_cons_zero, List.set_cons_succ]
      refine wpAnyH_take (i := 7) (v := undef) rfl (by kernel_rfl) (by kernel_rfl) (by kernel_rfl) (fun _ _ _ h => h) (Or.inr ⟨by rfl, rfl⟩) (by assumption) ?_
      try simp only [List.getElem_toArray, List.getElem_cons_succ, List.getElem_cons_zero, Act.put, List.setIfInBounds_toArray, List.set_cons_zero, List.set_cons_succ]
      refine wpAnyH_take (i := 8) (v := undef) rfl (by kernel_rfl) (by kernel_rfl) (by kernel_rfl) (fun _ _ _ h => h) (Or.inr ⟨by rfl, rfl⟩) (by assumption) ?_
      try simp only [List.getElem_toArray, List.getElem_cons_succ, List.getElem_cons_zero, Act.put, List.setIfInBounds_toArray, List.set_cons_zero, List.set_cons_succ]
      refine wpAnyH_take (i := 9) (v := undef) rfl (by kernel_rfl) (by kernel_rfl) (by kernel_rfl) (fun _ _ _ h => h) (Or.inr ⟨by rfl, rfl⟩) (by assumption) ?_
      try simp only [List.getElem_toArray, List.getElem_cons_succ, List.getElem_cons_zero, Act.put, List.setIfInBounds_toArray, List.set_cons_zero, List.set_cons_succ]
      refine wpAnyH_take (i := 10) (v := undef) rfl (by kernel_rfl) (by kernel_rfl) (by kernel_rfl) (fun _ _ _ h => h) (Or.inr ⟨by rfl, rfl⟩) (by assumption) ?_
      try simp only [List.getElem_toArray, List.getElem_cons_succ, List.getElem_cons_zero, Act.put, List.setIfInBounds_toArray, List.set_cons_zero, List.set_cons_succ]
      refine wpAnyH_take (i := 11) (v := undef) rfl (by kernel_rfl) (by kernel_rfl) (by kernel_rfl) (fun _ _ _ h => h) (Or.inr ⟨by rfl, rfl⟩) (by assumption) ?_
      try simp only [List.getElem_toArray, List.getElem_cons_succ, List.getElem_cons_zero, Act.put, List.setIfInBounds_toArray, List.set_cons_zero, List.set_cons_succ]
      refine wpAnyH_take (i := 12) (v := ?_) rfl (by kernel_rfl) (by kernel_rfl) (by kernel_rfl) (fun _ _ _ h => h) (Or.inl ⟨by rfl, ?_⟩) (by assumption) ?_
      rotate_left
      · (intro w hSw; (try dsimp only at hSw); go_simp; try with_reducible rfl)
      try simp only [List.getElem_toArray, List.getElem_cons_succ, List.getElem_cons_zero, Act.put, List.setIfInBounds_toArray, List.set_cons_zero, List.set_cons_succ]
      have HX5 := hide hHeld
      refine wpAnyH_done (by kernel_rfl) ?_ _
      go_upto_region 5 with (fail)
      refine wp_region_held_drew (S := fun W' => Only [] w2 W') (by kernel_rfl) (by exact HX5.out.drew) (fun hHeld => ?_)
      have HD := hide (show Only [] w2 wd3.drew from HX5.out.drew)
      generalize wd3.drew = a0 at *
      refine wpAnyH_take (i := 1) (v := ?_) rfl (by kernel_rfl) (by kernel_rfl) (by kernel_rfl) (fun _ _ _ h => h) (Or.inl ⟨by rfl, ?_⟩) (by assumption) ?_
      rotate_left
      · (intro w hSw; (try dsimp only at hSw); go_simp; try with_reducible rfl)
      try simp only [List.getElem_toArray, List.getElem_cons_succ, List.getElem_cons_zero, Act.put, List.setIfInBounds_toArray, List.set_cons_zero, List.set_cons_succ]
      refine wpAnyH_take (i := 2) (v := ?_) rfl (by kernel_rfl) (by kernel_rfl) (by kernel_rfl) (fun _ _ _ h => h) (Or.inl ⟨by rfl, ?_⟩) (by assumption) ?_
      rotate_left
      · (intro w hSw; (try dsimp only at hSw); go_simp; try with_reducible rfl)
      try simp only [List.getElem_toArray, List.getElem_cons_succ, List.getElem_cons_zero, Act.put, List.setIfInBounds_toArray, List.set_cons_zero, List.set_cons_succ]
      refine wpAnyH_take (i := 3) (v := ?_) rfl (by kernel_rfl) (by kernel_rfl) (by kernel_rfl) (fun _ _ _ h => h) (Or.inl ⟨by rfl, ?_⟩) (by assumption) ?_
      rotate_left
      · (intro w hSw; (try dsimp only at hSw); have hkc := HKC.out; go_simp; try with_reducible rfl)
      try simp only [List.getElem_toArray, List.getElem_cons_succ, List.getElem_cons_zero, Act.put, List.setIfInBounds_toArray, List.set_cons_zero, List.set_cons_succ]
      refine wpAnyH_take (i := 5) (v := ?_) rfl (by kernel_rfl) (by kernel_rfl) (by kernel_rfl) (fun _ _ _ h => h) (Or.inl ⟨by rfl, ?_⟩) (by assumption) ?_
      rotate_left
      · (intro w hSw; (try dsimp only at hSw); have f0 := (HBX.out.only hSw (by simp)).cell 0; have f1 := (HBX.out.only hSw (by simp)).cell 1; simp at f0 f1; go_simp; try with_reducible rfl)
      try simp only [List.getElem_toArray, List.getElem_cons_succ, List.getElem_cons_zero, Act.put, List.setIfInBounds_toArray, List.set_cons_zero, List.set_cons_succ]
      refine wpAnyH_take (i := 6) (v := ?_) rfl (by kernel_rfl) (by kernel_rfl) (by kernel_rfl) (fun _ _ _ h => h) (Or.inl ⟨by rfl, ?_⟩) (by assumption) ?_
      rotate_left
      · (intro w hSw; (try dsimp only at hSw); go_simp; try with_reducible rfl)
      try simp only [List.getElem_toArray, List.getElem_cons_succ, List.getElem_cons_zero, Act.put, List.setIfInBounds_toArray, List.set_cons_zero, List.set_cons_succ]
      refine wpAnyH_take (i := 7) (v := ?_) rfl (by kernel_rfl) (by kernel_rfl) (by kernel_rfl) (fun _ _ _ h => h) (Or.inl ⟨by rfl, ?_⟩) (by assumption) ?_
      rotate_left
      · (intro w hSw; (try dsimp only at hSw); go_simp; try with_reducible rfl)
      try simp only [List.getElem_toArray, List.getElem_cons_succ, List.getElem_cons_zero, Act.put, List.setIfInBounds_toArray, List.set_cons_zero, List.set_cons_succ]
      refine wpAnyH_ready (rs := [0, 8]) (by kernel_rfl) (by simp) ?_
      refine (AllReadyH.cons rfl (fun K hK => ?_) (AllReadyH.cons rfl (fun K hK => ?_) AllReadyH.nil))
      · go_simp
        have HDn := hide (HD.out.alloc (.cells #[] 57))
        have HOWn := hide (ownR_empty a0 w2.heap.size HD.out.size)
        refine hK.out _ _ (by exact hHeld.alloc _) (fun hHeldN => ?_)
        clear hK K hHeld HD
        have hHeld := hHeldN
        have HD := HDn
        clear hHeldN HDn
        have HOW := HOWn
        clear HOWn
        generalize a0.alloc (.cells #[] 57) = a1 at *
        generalize a0.heap.size = G7 at *
        try simp only [List.getElem_toArray, List.getElem_cons_succ, List.getElem_cons_zero, Act.put, List.setIfInBounds_toArray, List.set_cons_zero, List.set_cons_succ]
        refine wpAnyH_ready (rs := [4, 8]) (by kernel_rfl) (by simp) ?_
        refine (AllReadyH.cons rfl (fun K hK => ?_) (AllReadyH.cons rfl (fun K hK => ?_) AllReadyH.nil))
        · rw [if_pos (by rfl)]
          refine wp_rows_append (W := a1) (w0 := w2) _ _ rfl w2.heap.size (.slice (some ⟨G7, 0, none⟩) 0 0) [] (ps.take k) rfl HOW.out _ _ _ rfl ((HRD.out.only HD.out (by simp)).take2 HKN.out) (fun p hp => HFORM.out p (List.mem_of_mem_take hp)) (by rw [List.length_take]; have := HL1.out; simp only [List.length_nil]; omega) HD.out.size HD.out (Nat.le_refl _) ?_
          intro vn wn hown hon hsn hkeep
          have HOWn := hide hown
          have HDn := hide hon
          obtain ⟨A7, c7, hvn, _, _⟩ := own_form hown
          generalize ([] ++ (ps.take k)).length = n7 at hvn
          subst hvn
          clear hown hon hsn hkeep
          refine hK.out _ _ (by exact HDn.out) (fun hHeldN => ?_)
          clear hK K hHeld HD HOW
          have hHeld := hHeldN
          have HD := HDn
          have HOW := HOWn
          clear hHeldN HDn HOWn
          obtain ⟨a2, hwn⟩ : ∃ z, z = wn := ⟨_, rfl⟩
          subst hwn
          try simp only [List.getElem_toArray, List.getElem_cons_succ, List.getElem_cons_zero, Act.put, List.setIfInBounds_toArray, List.set_cons_zero, List.set_cons_succ]
          refine wpAnyH_ready (rs := [8]) (by kernel_rfl) (by simp) ?_
          refine (AllReadyH.cons rfl (fun K hK => ?_) AllReadyH.nil)
          go_simp
          have HDn := hide (HD.out.alloc (.cells #[.slice B pl.length cb, .int .i64 pb, .int .i64 x] 57))
          have HOWn := hide (HOW.out.only ((Only.refl [] a2).alloc (.cells #[.slice B pl.length cb, .int .i64 pb, .int .i64 x] 57)))
          have HNE := hide (show (Value.slice A7 n7 c7).ownBlock ≠ some a2.heap.size from fun e => by have := own_lt HOW.out e; omega)
          have HXBn := hide (Blk.new a2 57 #[.slice B pl.length cb, .int .i64 pb, .int .i64 x])
          refine hK.out _ _ (by exact hHeld.alloc _) (fun hHeldN => ?_)
          clear hK K hHeld HD
          have hHeld := hHeldN
          have HD := HDn
          clear hHeldN HDn
          clear HOW
          have HOW := HOWn
          clear HOWn
          have HXB := HXBn
          clear HXBn
          generalize a2.alloc (.cells #[.slice B pl.length cb, .int .i64 pb, .int .i64 x] 57) = a3 at *
          generalize a2.heap.size = GX at *
          try simp only [List.getElem_toArray, List.getElem_cons_succ, List.getElem_cons_zero, Act.put, List.setIfInBounds_toArray, List.set_cons_zero, List.set_cons_succ]
          refine wpAnyH_ready (rs := [9]) (by kernel_rfl) (by simp) ?_
          refine (AllReadyH.cons rfl (fun K hK => ?_) AllReadyH.nil)
          rw [if_pos (by rfl)]
          refine wp_rows_append (W := a3) (w0 := w2) _ _ rfl w2.heap.size (.slice A7 n7 c7) ([] ++ ps.take k) [(Value.slice B pl.length cb, pl, pb, x)] rfl HOW.out _ _ _ rfl (rds_one HXB.out) (fun p hp => by simp at hp; subst hp; exact ⟨_, _, _, rfl⟩) (by rw [List.nil_append, List.length_take]; have := HL1.out; simp only [List.length_singleton]; omega) HD.out.size HD.out (Nat.le_refl _) ?_
          intro vn wn hown hon hsn hkeep
          have HOWn := hide hown
          have HDn := hide hon
          obtain ⟨A9, c9, hvn, _, _⟩ := own_form hown
          generalize (([] ++ ps.take k) ++ [(Value.slice B pl.length cb, pl, pb, x)]).length = n9 at hvn
          subst hvn
          clear hown hon hsn hkeep
          refine hK.out _ _ (by exact HDn.out) (fun hHeldN => ?_)
          clear hK K hHeld HD HOW
          have hHeld := hHeldN
          have HD := HDn
          have HOW := HOWn
          clear hHeldN HDn HOWn
          obtain ⟨a4, hwn⟩ : ∃ z, z = wn := ⟨_, rfl⟩
          subst hwn
          try simp only [List.getElem_toArray, List.getElem_cons_succ, List.getElem_cons_zero, Act.put, List.setIfInBounds_toArray, List.set_cons_zero, List.set_cons_succ]
          refine wpAnyH_take (i := 10) (v := ?_) rfl (by kernel_rfl) (by kernel_rfl) (by kernel_rfl) (fun _ _ _ h => h) (Or.inl ⟨by rfl, ?_⟩) (by assumption) ?_
          rotate_left
          · (intro w hSw; (try dsimp only at hSw); go_simp; try with_reducible rfl)
          try simp only [List.getElem_toArray, List.getElem_cons_succ, List.getElem_cons_zero, Act.put, List.setIfInBounds_toArray, List.set_cons_zero, List.set_cons_succ]
          refine wpAnyH_done (by kernel_rfl) ?_ _
          have HPOST := hide (fun v' w' (h1 : OwnR w' w2.heap.size v' (([] ++ ps.take k ++ [(Value.slice B pl.length cb, pl, pb, x)]) ++ [])) (h2 : Only [] w2 w') => show PutRPost N (putV l0 (pl, pb) x) w (.returned v') w' from by
            refine ⟨v', rfl, ?_, HO2.out.trans h2⟩
            rw [HPUT.out, HE1.out, HE2.out]
            refine ⟨ps.take k ++ [(Value.slice B pl.length cb, pl, pb, x)] ++ ps.drop k, by rw [List.map_append, List.map_append, List.map_take, List.map_drop, HPS.out]; simp, (by simpa [HDN.out] using h1.rd (fun y hy => Nat.lt_of_lt_of_le (HNN.out y hy) HO2.out.size)), fun p hp => ?_⟩
            rcases List.mem_append.1 hp with hp | hp
            · rcases List.mem_append.1 hp with hp | hp
              · exact (HROWS.out p (List.mem_of_mem_take hp)).only h2 (by simp)
              · obtain rfl : p = (Value.slice B pl.length cb, pl, pb, x) := by simpa using hp
                exact HP0.out.only (HO2.out.trans h2) (by simp)
            · exact (HROWS.out p (List.mem_of_mem_drop hp)).only h2 (by simp))
          obtain ⟨A40, c40, hc40, hs40⟩ := slice_end A k c HNC.out HCM.out; have HC40 := hide hc40; clear hc40
          have hnc := HNC.out
          clear hn1000
          go_wp2_with (at_builtin; refine wpList_rows_append (W := a4) (w0 := w2) rfl _ _ rfl w2.heap.size (.slice A9 n9 c9) ([] ++ ps.take k ++ [(Value.slice B pl.length cb, pl, pb, x)]) [] rfl HOW.out _ _ _ rfl (rds_no A40 c40 HC40.out) (by simp) (by simp only [List.nil_append, List.length_append, List.length_take, List.length_drop, List.length_singleton, List.length_nil]; have := HL1.out; omega) HD.out.size HD.out (Nat.le_refl _) ?_; intro v' w' h1 h2 _; have HFIN := hide (HPOST.out v' w' h1 h2); clear h1 h2)
          go_ret
          exact HFIN.out
        · go_simp
          have HDn := hide (HD.out.alloc (.cells #[.slice B pl.length cb, .int .i64 pb, .int .i64 x] 57))
          have HOWn := hide (HOW.out.only ((Only.refl [] a1).alloc (.cells #[.slice B pl.length cb, .int .i64 pb, .int .i64 x] 57)))
          have HNE := hide (show (Value.slice (some ⟨G7, 0, none⟩) 0 0).ownBlock ≠ some a1.heap.size from fun e => by have := own_lt HOW.out e; omega)
          have HXBn := hide (Blk.new a1 57 #[.slice B pl.length cb, .int .i64 pb, .int .i64 x])
          refine hK.out _ _ (by exact hHeld.alloc _) (fun hHeldN => ?_)
          clear hK K hHeld HD
          have hHeld := hHeldN
          have HD := HDn
          clear hHeldN HDn
          clear HOW
          have HOW := HOWn
          clear HOWn
          have HXB := HXBn
          clear HXBn
          generalize a1.alloc (.cells #[.slice B pl.length cb, .int .i64 pb, .int .i64 x] 57) = a2 at *
          generalize a1.heap.size = GX at *
          try simp only [List.getElem_toArray, List.getElem_cons_succ, List.getElem_cons_zero, Act.put, List.setIfInBounds_toArray, List.set_cons_zero, List.set_cons_succ]
          refine wpAnyH_ready (rs := [4]) (by kernel_rfl) (by simp) ?_
          refine (AllReadyH.cons rfl (fun K hK => ?_) AllReadyH.nil)
          rw [if_pos (by rfl)]
          refine wp_rows_append (W := a2) (w0 := w2) _ _ rfl w2.heap.size (.slice (some ⟨G7, 0, none⟩) 0 0) [] (ps.take k) rfl HOW.out _ _ _ rfl ((HRD.out.only HD.out (by simp)).take2 HKN.out) (fun p hp => HFORM.out p (List.mem_of_mem_take hp)) (by rw [List.length_take]; have := HL1.out; simp only [List.length_nil]; omega) HD.out.size HD.out (Nat.le_refl _) ?_
          intro vn wn hown hon hsn hkeep
          have HOWn := hide hown
          have HDn := hide hon
          have HXBn := hide (hkeep GX _ _ HNE.out HXB.out).1
          have HNEn := hide (hkeep GX _ _ HNE.out HXB.out).2
          obtain ⟨A7, c7, hvn, _, _⟩ := own_form hown
          generalize ([] ++ (ps.take k)).length = n7 at hvn
          subst hvn
          clear hown hon hsn hkeep
          refine hK.out _ _ (by exact HDn.out) (fun hHeldN => ?_)
          clear hK K hHeld HD HOW
          have hHeld := hHeldN
          have HD := HDn
          have HOW := HOWn
          clear hHeldN HDn HOWn
          clear HXB HNE
          have HXB := HXBn
          have HNE := HNEn
          clear HXBn HNEn
          obtain ⟨a3, hwn⟩ : ∃ z, z = wn := ⟨_, rfl⟩
          subst hwn
          try simp only [List.getElem_toArray, List.getElem_cons_succ, List.getElem_cons_zero, Act.put, List.setIfInBounds_toArray, List.set_cons_zero, List.set_cons_succ]
          refine wpAnyH_ready (rs := [9]) (by kernel_rfl) (by simp) ?_
          refine (AllReadyH.cons rfl (fun K hK => ?_) AllReadyH.nil)
          rw [if_pos (by rfl)]
          refine wp_rows_append (W := a3) (w0 := w2) _ _ rfl w2.heap.size (.slice A7 n7 c7) ([] ++ ps.take k) [(Value.slice B pl.length cb, pl, pb, x)] rfl HOW.out _ _ _ rfl (rds_one HXB.out) (fun p hp => by simp at hp; subst hp; exact ⟨_, _, _, rfl⟩) (by rw [List.nil_append, List.length_take]; have := HL1.out; simp only [List.length_singleton]; omega) HD.out.size HD.out (Nat.le_refl _) ?_
          intro vn wn hown hon hsn hkeep
          have HOWn := hide hown
          have HDn := hide hon
          obtain ⟨A9, c9, hvn, _, _⟩ := own_form hown
          generalize (([] ++ ps.take k) ++ [(Value.slice B pl.length cb, pl, pb, x)]).length = n9 at hvn
          subst hvn
          clear hown hon hsn hkeep
          refine hK.out _ _ (by exact HDn.out) (fun hHeldN => ?_)
          clear hK K hHeld HD HOW
          have hHeld := hHeldN
          have HD := HDn
          have HOW := HOWn
          clear hHeldN HDn HOWn
          obtain ⟨a4, hwn⟩ : ∃ z, z = wn := ⟨_, rfl⟩
          subst hwn
          try simp only [List.getElem_toArray, List.getElem_cons_succ, List.getElem_cons_zero, Act.put, List.setIfInBounds_toArray, List.set_cons_zero, List.set_cons_succ]
          refine wpAnyH_take (i := 10) (v := ?_) rfl (by kernel_rfl) (by kernel_rfl) (by kernel_rfl) (fun _ _ _ h => h) (Or.inl ⟨by rfl, ?_⟩) (by assumption) ?_
          rotate_left
          · (intro w hSw; (try dsimp only at hSw); go_simp; try with_reducible rfl)
          try simp only [List.getElem_toArray, List.getElem_cons_succ, List.getElem_cons_zero, Act.put, List.setIfInBounds_toArray, List.set_cons_zero, List.set_cons_succ]
          refine wpAnyH_done (by kernel_rfl) ?_ _
          have HPOST := hide (fun v' w' (h1 : OwnR w' w2.heap.size v' (([] ++ ps.take k ++ [(Value.slice B pl.length cb, pl, pb, x)]) ++ [])) (h2 : Only [] w2 w') => show PutRPost N (putV l0 (pl, pb) x) w (.returned v') w' from by
            refine ⟨v', rfl, ?_, HO2.out.trans h2⟩
            rw [HPUT.out, HE1.out, HE2.out]
            refine ⟨ps.take k ++ [(Value.slice B pl.length cb, pl, pb, x)] ++ ps.drop k, by rw [List.map_append, List.map_append, List.map_take, List.map_drop, HPS.out]; simp, (by simpa [HDN.out] using h1.rd (fun y hy => Nat.lt_of_lt_of_le (HNN.out y hy) HO2.out.size)), fun p hp => ?_⟩
            rcases List.mem_append.1 hp with hp | hp
            · rcases List.mem_append.1 hp with hp | hp
              · exact (HROWS.out p (List.mem_of_mem_take hp)).only h2 (by simp)
              · obtain rfl : p = (Value.slice B pl.length cb, pl, pb, x) := by simpa using hp
                exact HP0.out.only (HO2.out.trans h2) (by simp)
            · exact (HROWS.out p (List.mem_of_mem_drop hp)).only h2 (by simp))
          obtain ⟨A40, c40, hc40, hs40⟩ := slice_end A k c HNC.out HCM.out; have HC40 := hide hc40; clear hc40
          have hnc := HNC.out
          clear hn1000
          go_wp2_with (at_builtin; refine wpList_rows_append (W := a4) (w0 := w2) rfl _ _ rfl w2.heap.size (.slice A9 n9 c9) ([] ++ ps.take k ++ [(Value.slice B pl.length cb, pl, pb, x)]) [] rfl HOW.out _ _ _ rfl (rds_no A40 c40 HC40.out) (by simp) (by simp only [List.nil_append, List.length_append, List.length_take, List.length_drop, List.length_singleton, List.length_nil]; have := HL1.out; omega) HD.out.size HD.out (Nat.le_refl _) ?_; intro v' w' h1 h2 _; have HFIN := hide (HPOST.out v' w' h1 h2); clear h1 h2)
          go_ret
          exact HFIN.out
      · go_simp
        have HDn := hide (HD.out.alloc (.cells #[.slice B pl.length cb, .int .i64 pb, .int .i64 x] 57))
        have HXBn := hide (Blk.new a0 57 #[.slice B pl.length cb, .int .i64 pb, .int .i64 x])
        refine hK.out _ _ (by exact hHeld.alloc _) (fun hHeldN => ?_)
        clear hK K hHeld HD
        have hHeld := hHeldN
        have HD := HDn
        clear hHeldN HDn
        have HXB := HXBn
        clear HXBn
        generalize a0.alloc (.cells #[.slice B pl.length cb, .int .i64 pb, .int .i64 x] 57) = a1 at *
        generalize a0.heap.size = GX at *
        try simp only [List.getElem_toArray, List.getElem_cons_succ, List.getElem_cons_zero, Act.put, List.setIfInBounds_toArray, List.set_cons_zero, List.set_cons_succ]
        refine wpAnyH_ready (rs := [0]) (by kernel_rfl) (by simp) ?_
        refine (AllReadyH.cons rfl (fun K hK => ?_) AllReadyH.nil)
        go_simp
        have HDn := hide (HD.out.alloc (.cells #[] 57))
        have HXBn := hide (HXB.out.alloc (.cells #[] 57))
        have HOWn := hide (ownR_empty a1 w2.heap.size HD.out.size)
        have HNE := hide (show (Value.slice (some ⟨a1.heap.size, 0, none⟩) 0 0).ownBlock ≠ some GX from fun e => by have := HXB.out.lt; simp [Value.ownBlock] at e; omega)
        refine hK.out _ _ (by exact hHeld.alloc _) (fun hHeldN => ?_)
        clear hK K hHeld HD
        have hHeld := hHeldN
        have HD := HDn
        clear hHeldN HDn
        have HOW := HOWn
        clear HOWn
        clear HXB
        have HXB := HXBn
        clear HXBn
        generalize a1.alloc (.cells #[] 57) = a2 at *
        generalize a1.heap.size = G7 at *
        try simp only [List.getElem_toArray, List.getElem_cons_succ, List.getElem_cons_zero, Act.put, List.setIfInBounds_toArray, List.set_cons_zero, List.set_cons_succ]
        refine wpAnyH_ready (rs := [4]) (by kernel_rfl) (by simp) ?_
        refine (AllReadyH.cons rfl (fun K hK => ?_) AllReadyH.nil)
        rw [if_pos (by rfl)]
        refine wp_rows_append (W := a2) (w0 := w2) _ _ rfl w2.heap.size (.slice (some ⟨G7, 0, none⟩) 0 0) [] (ps.take k) rfl HOW.out _ _ _ rfl ((HRD.out.only HD.out (by simp)).take2 HKN.out) (fun p hp => HFORM.out p (List.mem_of_mem_take hp)) (by rw [List.length_take]; have := HL1.out; simp only [List.length_nil]; omega) HD.out.size HD.out (Nat.le_refl _) ?_
        intro vn wn hown hon hsn hkeep
        have HOWn := hide hown
        have HDn := hide hon
        have HXBn := hide (hkeep GX _ _ HNE.out HXB.out).1
        have HNEn := hide (hkeep GX _ _ HNE.out HXB.out).2
        obtain ⟨A7, c7, hvn, _, _⟩ := own_form hown
        generalize ([] ++ (ps.take k)).length = n7 at hvn
        subst hvn
        clear hown hon hsn hkeep
        refine hK.out _ _ (by exact HDn.out) (fun hHeldN => ?_)
        clear hK K hHeld HD HOW
        have hHeld := hHeldN
        have HD := HDn
        have HOW := HOWn
        clear hHeldN HDn HOWn
        clear HXB HNE
        have HXB := HXBn
        have HNE := HNEn
        clear HXBn HNEn
        obtain ⟨a3, hwn⟩ : ∃ z, z = wn := ⟨_, rfl⟩
        subst hwn
        try simp only [List.getElem_toArray, List.getElem_cons_succ, List.getElem_cons_zero, Act.put, List.setIfInBounds_toArray, List.set_cons_zero, List.set_cons_succ]
        refine wpAnyH_ready (rs := [9]) (by kernel_rfl) (by simp) ?_
        refine (AllReadyH.cons rfl (fun K hK => ?_) AllReadyH.nil)
        rw [if_pos (by rfl)]
        refine wp_rows_append (W := a3) (w0 := w2) _ _ rfl w2.heap.size (.slice A7 n7 c7) ([] ++ ps.take k) [(Value.slice B pl.length cb, pl, pb, x)] rfl HOW.out _ _ _ rfl (rds_one HXB.out) (fun p hp => by simp at hp; subst hp; exact ⟨_, _, _, rfl⟩) (by rw [List.nil_append, List.length_take]; have := HL1.out; simp only [List.length_singleton]; omega) HD.out.size HD.out (Nat.le_refl _) ?_
        intro vn wn hown hon hsn hkeep
        have HOWn := hide hown
        have HDn := hide hon
        obtain ⟨A9, c9, hvn, _, _⟩ := own_form hown
        generalize (([] ++ ps.take k) ++ [(Value.slice B pl.length cb, pl, pb, x)]).length = n9 at hvn
        subst hvn
        clear hown hon hsn hkeep
        refine hK.out _ _ (by exact HDn.out) (fun hHeldN => ?_)
        clear hK K hHeld HD HOW
        have hHeld := hHeldN
        have HD := HDn
        have HOW := HOWn
        clear hHeldN HDn HOWn
        obtain ⟨a4, hwn⟩ : ∃ z, z = wn := ⟨_, rfl⟩
        subst hwn
        try simp only [List.getElem_toArray, List.getElem_cons_succ, List.getElem_cons_zero, Act.put, List.setIfInBounds_toArray, List.set_cons_zero, List.set_cons_succ]
        refine wpAnyH_take (i := 10) (v := ?_) rfl (by kernel_rfl) (by kernel_rfl) (by kernel_rfl) (fun _ _ _ h => h) (Or.inl ⟨by rfl, ?_⟩) (by assumption) ?_
        rotate_left
        · (intro w hSw; (try dsimp only at hSw); go_simp; try with_reducible rfl)
        try simp only [List.getElem_toArray, List.getElem_cons_succ, List.getElem_cons_zero, Act.put, List.setIfInBounds_toArray, List.set_cons_zero, List.set_cons_succ]
        refine wpAnyH_done (by kernel_rfl) ?_ _
        have HPOST := hide (fun v' w' (h1 : OwnR w' w2.heap.size v' (([] ++ ps.take k ++ [(Value.slice B pl.length cb, pl, pb, x)]) ++ [])) (h2 : Only [] w2 w') => show PutRPost N (putV l0 (pl, pb) x) w (.returned v') w' from by
          refine ⟨v', rfl, ?_, HO2.out.trans h2⟩
          rw [HPUT.out, HE1.out, HE2.out]
          refine ⟨ps.take k ++ [(Value.slice B pl.length cb, pl, pb, x)] ++ ps.drop k, by rw [List.map_append, List.map_append, List.map_take, List.map_drop, HPS.out]; simp, (by simpa [HDN.out] using h1.rd (fun y hy => Nat.lt_of_lt_of_le (HNN.out y hy) HO2.out.size)), fun p hp => ?_⟩
          rcases List.mem_append.1 hp with hp | hp
          · rcases List.mem_append.1 hp with hp | hp
            · exact (HROWS.out p (List.mem_of_mem_take hp)).only h2 (by simp)
            · obtain rfl : p = (Value.slice B pl.length cb, pl, pb, x) := by simpa using hp
              exact HP0.out.only (HO2.out.trans h2) (by simp)
          · exact (HROWS.out p (List.mem_of_mem_drop hp)).only h2 (by simp))
        obtain ⟨A40, c40, hc40, hs40⟩ := slice_end A k c HNC.out HCM.out; have HC40 := hide hc40; clear hc40
        have hnc := HNC.out
        clear hn1000
        go_wp2_with (at_builtin; refine wpList_rows_append (W := a4) (w0 := w2) rfl _ _ rfl w2.heap.size (.slice A9 n9 c9) ([] ++ ps.take k ++ [(Value.slice B pl.length cb, pl, pb, x)]) [] rfl HOW.out _ _ _ rfl (rds_no A40 c40 HC40.out) (by simp) (by simp only [List.nil_append, List.length_append, List.length_take, List.length_drop, List.length_singleton, List.length_nil]; have := HL1.out; omega) HD.out.size HD.out (Nat.le_refl _) ?_; intro v' w' h1 h2 _; have HFIN := hide (HPOST.out v' w' h1 h2); clear h1 h2)
        go_ret
        exact HFIN.out
end
end Go.Proofs.Ytokaobilphfdoaa

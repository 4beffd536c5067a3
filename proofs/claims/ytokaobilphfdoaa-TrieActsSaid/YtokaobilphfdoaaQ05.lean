/-
  Walks and plain words (texts Trt). No condition beyond those that each theorem states.
-/
import Derived.Test.YtokaobilphfdoaaQ04
namespace Go.Proofs.Ytokaobilphfdoaa
section
open Go.RowKit Go.Deep

theorem u8_or_nat (c s : Nat) (hc : c < 256) (hs : s ≤ 7) (hm : c % 2 ^ (s + 1) = 0) : bits .or .u8 (c : Int) ((2 ^ s : Nat) : Int) = ((c + 2 ^ s : Nat) : Int) ∧ bits .andNot .u8 ((c + 2 ^ s : Nat) : Int) ((2 ^ s : Nat) : Int) = (c : Int) := by
  have h : ∀ (s : Fin 8) (c : Fin 256), c.1 % 2 ^ (s.1 + 1) = 0 → bits .or .u8 (c.1 : Int) ((2 ^ s.1 : Nat) : Int) = ((c.1 + 2 ^ s.1 : Nat) : Int) ∧ bits .andNot .u8 ((c.1 + 2 ^ s.1 : Nat) : Int) ((2 ^ s.1 : Nat) : Int) = (c.1 : Int) := by decide +kernel
  exact h ⟨s, by omega⟩ ⟨c, hc⟩ hm
theorem unP_mod (n : Nat) : ∀ (π : List Bool) (i : Nat), i < n → ((unP n π).getD i 0).toNat % room π.length i = 0
  | [], i, hi => by
    have h1 : (List.replicate n (0 : UInt8)).getD i 0 = 0 := by rw [List.getD, List.getElem?_replicate]; split <;> rfl
    rw [show unP n [] = List.replicate n 0 from rfl, h1]
    exact Nat.zero_mod _
  | b :: π, i, hi => by
    have ih := unP_mod n π i hi
    rw [List.length_cons]
    by_cases hk : π.length / 8 = i
    · obtain ⟨e1, e2⟩ := room_at hk
      rw [e1] at ih
      rw [e2]
      cases b
      · show ((unP n π).getD i 0).toNat % _ = 0
        exact Nat.mod_eq_zero_of_dvd (Nat.dvd_trans ⟨2, by omega⟩ (Nat.dvd_of_mod_eq_zero ih))
      · rw [unP_set hk hi]
        refine Nat.mod_eq_zero_of_dvd ((Nat.dvd_add_right (Nat.dvd_trans ⟨2, by omega⟩ (Nat.dvd_of_mod_eq_zero ih))).2 (Nat.dvd_refl _))
    · rw [room_off hk, unP_off hk]
      exact ih
def bytC (n : Nat) (π : List Bool) : Array Value := (ints .u8 (byts (unP n π))).toArray
theorem bytC_size (n : Nat) (π : List Bool) : (bytC n π).size = n := by unfold bytC; rw [List.size_toArray, ints_length, byts_length, unP_len]
theorem bytC_get {n : Nat} {π : List Bool} {i : Nat} (h : i < n) : (bytC n π)[i]? = some (.int .u8 (((unP n π).getD i 0).toNat : Int)) := by
  unfold bytC
  rw [List.getElem?_toArray]
  exact ints_get (byts_get (getD_some (by rw [unP_len]; exact h)))
theorem bytC_true (n : Nat) (π : List Bool) (h : π.length / 8 < n) : (bytC n π).setIfInBounds (π.length / 8) (.int .u8 ((((unP n π).getD (π.length / 8) 0).toNat + 2 ^ (7 - π.length % 8) : Nat) : Int)) = bytC n (true :: π) := by
  unfold bytC
  have h1 := unP_set (n := n) (π := π) rfl h
  simp only [unP, if_true] at h1 ⊢
  refine cells_set _ _ _ _ ?_
  have h2 := getD_set_same (l := unP n π) (k := π.length / 8) (by rw [unP_len]; exact h) (UInt8.ofNat (((unP n π).getD (π.length / 8) 0).toNat + 2 ^ (7 - π.length % 8)))
  rw [h2] at h1
  exact congrArg (fun x : Nat => (x : Int)) h1.symm
theorem bytC_back (n : Nat) (π : List Bool) (h : π.length / 8 < n) : (bytC n (true :: π)).setIfInBounds (π.length / 8) (.int .u8 (((unP n π).getD (π.length / 8) 0).toNat : Int)) = bytC n π := by
  rw [← bytC_true n π h, Array.setIfInBounds_setIfInBounds]
  apply Array.ext
  · simp
  · intro i h1 h2
    rw [Array.getElem_setIfInBounds]
    split
    · rename_i e
      subst e
      have := bytC_get (n := n) (π := π) h
      rw [Array.getElem?_eq_getElem h2] at this
      injection this with this
      exact this.symm
    · rfl
theorem bytC_rd {w : World} {A : Nat} {n : Nat} {π : List Bool} (h : Blk w A 5 (bytC n π)) (hn : n ≤ 16) (N : List Nat) (hN : A ∉ N) : Rd w N (.slice (some ⟨A, 0, none⟩) n n) (ints .u8 (byts (unP n π))) := by
  have := rd_of_blk (cs := ints .u8 (byts (unP n π))) h N hN (by rw [ints_length, byts_length, unP_len]; unfold maxLen; omega)
  rwa [ints_length, byts_length, unP_len] at this

def WalkPost_rows (w0 : World) (J : List Rw → World → Prop) (A n : Nat) (π : List Bool) (l : List Rw) (e : Ending) (W' : World) : Prop := e = .returned (.tuple #[]) ∧ Only [] w0 W' ∧ J l W' ∧ Blk W' A 5 (bytC n π)
section
variable (T : Nat) (bl : List Nat) (ad : Ads) (th : ThF) (ow : OwF) (s : Bool) (n : Nat) (w0 : World) (J : List Rw → World → Prop) (A : Nat) (bo : Nat)
set_option maxRecDepth 100000 in
set_option maxHeartbeats 12800000 in
theorem walk_rows (hT : TrIs w0 T bl ad th ow) (hn : n ≤ 16) (hA : w0.heap.size ≤ A)
    (hJ : ∀ l W W', J l W → Only [A] W W' → J l W')
    (hTell : ∀ l (r : Rw) av Wp W, J l Wp → Only [] Wp W → Only [] w0 Wp → A < Wp.heap.size → l.length < 90000 → (∀ M : List Nat, (∀ x ∈ M, x < Wp.heap.size) → Rd W M av (ints .u8 (byts r.1))) → Calls Try.prog 34 #[.agg #[av, .int .i64 r.2.1, .int .i64 r.2.2], .pointer (some ⟨bo, 0, none⟩)] W fun e W' => e = .returned (.tuple #[]) ∧ J (l ++ [r]) W' ∧ Only [] w0 W' ∧ ∀ cs, Blk W A 5 cs → Blk W' A 5 cs) :
    ∀ (k : Nat) (π : List Bool) (l : List Rw) (W : World), π.length + k = 8 * n → l.length + (dfsL (th s) (ow s) n k π).length ≤ 80000 → Only [] w0 W → J l W → Blk W A 5 (bytC n π) →
      Calls Try.prog 35 #[kidV (ad s π), .slice (some ⟨A, 0, none⟩) n n, .int .i64 (π.length : Int), .func (.func 34) #[] #[.pointer (some ⟨bo, 0, none⟩)]] W (WalkPost_rows w0 J A n π (l ++ dfsL (th s) (ow s) n k π)) := by
  intro k
  induction k with
  | zero =>
    intro π l W hk hlen hon hj hb
    cases hc : ad s π with
    | none =>
      have HD := hide (show l ++ dfsL (th s) (ow s) n 0 π = l by rw [dfs_none hT hc, List.append_nil])
      rw [HD.out]
      have HF := hide (show WalkPost_rows w0 J A n π l (.returned (.tuple #[])) W from ⟨rfl, hon, hj, hb⟩)
      simp only [kidV, Option.map_none]
      clear hc hb hj hon hk hlen
      go_enter Try.func35, Try.ntmps35
      go_wp2_with fail
      go_end0
      exact HF.out
    | some p =>
      obtain ⟨g, o⟩ := p
      simp only [kidV, Option.map_some]
      have HTW := hide (hT.only hon (by simp))
      obtain ⟨d0, d1, hkid⟩ := HTW.out.at_ hc
      have k0 := hkid false
      have k1 := hkid true
      simp only [Bool.toNat_false, Bool.toNat_true, Nat.add_zero] at k0 k1
      rw [← Nat.add_assoc] at k1
      have HON := hide hon
      have HB := hide hb
      have HJ0 := hide hj
      have HC0 := hide hc
      have HT0 := hide hT
      have HN16 := hide hn
      cases hth : th s π with
      | true =>
        rw [hth] at d1
        have HNV := hide (show l ++ dfsL (th s) (ow s) n 0 π = (l ++ [(unP n π, π.length, ow s π)]) by rw [dfsL, nodeV, hth]; rfl)
        rw [HNV.out]
        have hne : ((π.length : Int) == 8 * (n : Int)) = true := by rw [beq_iff_eq]; omega
        have HLL := hide (show l.length < 90000 by omega)
        clear hlen hk hb hj hth hkid hon
        go_enter Try.func35, Try.ntmps35
        go_upto_region 2 with (fail)
        refine wp_region_held_drew (S := fun W' => Only [] w0 W') (by kernel_rfl) (by exact HON.out.drew) (fun hHeld => ?_)
        have HJd := hide (hJ _ _ _ HJ0.out ((Only.refl [A] W).drew))
        have HBd := hide (show Blk W.drew A 5 (bytC n π) from HB.out.drew)
        generalize W.drew = wd2 at *
        have HOd := hide hHeld
        refine wpAnyH_take (i := 0) (v := ?_) rfl (by kernel_rfl) (by kernel_rfl) (by kernel_rfl) (fun _ _ _ h => h) (Or.inl ⟨by rfl, ?_⟩) (by assumption) ?_
        rotate_left
        · (intro w hSw; (try dsimp only at hSw); go_simp; try with_reducible rfl)
        try simp only [List.getElem_toArray, List.getElem_cons_succ, List.getElem_cons_zero, Act.put, List.setIfInBounds_toArray, List.set_cons_zero, List.set_cons_succ]
        refine wpAnyH_take (i := 1) (v := ?_) rfl (by kernel_rfl) (by kernel_rfl) (by kernel_rfl) (fun _ _ _ h => h) (Or.inl ⟨by rfl, ?_⟩) (by assumption) ?_
        rotate_left
        · (intro w hSw; (try dsimp only at hSw); go_simp; try with_reducible rfl)
        try simp only [List.getElem_toArray, List.getElem_cons_succ, List.getElem_cons_zero, Act.put, List.setIfInBounds_toArray, List.set_cons_zero, List.set_cons_succ]
        refine wpAnyH_take (i := 3) (v := ?_) rfl (by kernel_rfl) (by kernel_rfl) (by kernel_rfl) (fun _ _ _ h => h) (Or.inl ⟨by rfl, ?_⟩) (by assumption) ?_
        rotate_left
        · (intro w hSw; (try dsimp only at hSw); go_simp; try with_reducible rfl)
        try simp only [List.getElem_toArray, List.getElem_cons_succ, List.getElem_cons_zero, Act.put, List.setIfInBounds_toArray, List.set_cons_zero, List.set_cons_succ]
        refine wpAnyH_take (i := 5) (v := ?_) rfl (by kernel_rfl) (by kernel_rfl) (by kernel_rfl) (fun _ _ _ h => h) (Or.inl ⟨by rfl, ?_⟩) (by assumption) ?_
        rotate_left
        · (intro w hSw; (try dsimp only at hSw); go_simp; try with_reducible rfl)
        try simp only [List.getElem_toArray, List.getElem_cons_succ, List.getElem_cons_zero, Act.put, List.setIfInBounds_toArray, List.set_cons_zero, List.set_cons_succ]
        refine wpAnyH_take (i := 6) (v := ?_) rfl (by kernel_rfl) (by kernel_rfl) (by kernel_rfl) (fun _ _ _ h => h) (Or.inl ⟨by rfl, ?_⟩) (by assumption) ?_
        rotate_left
        · (intro w hSw; (try dsimp only at hSw); go_simp; try with_reducible rfl)
        try simp only [List.getElem_toArray, List.getElem_cons_succ, List.getElem_cons_zero, Act.put, List.setIfInBounds_toArray, List.set_cons_zero, List.set_cons_succ]
        refine wpAnyH_take (i := 7) (v := ?_) rfl (by kernel_rfl) (by kernel_rfl) (by kernel_rfl) (fun _ _ _ h => h) (Or.inl ⟨by rfl, ?_⟩) (by assumption) ?_
        rotate_left
        · (intro w hSw; (try dsimp only at hSw); go_simp; try with_reducible rfl)
        try simp only [List.getElem_toArray, List.getElem_cons_succ, List.getElem_cons_zero, Act.put, List.setIfInBounds_toArray, List.set_cons_zero, List.set_cons_succ]
        refine wpAnyH_take (i := 8) (v := ?_) rfl (by kernel_rfl) (by kernel_rfl) (by kernel_rfl) (fun _ _ _ h => h) (Or.inl ⟨by rfl, ?_⟩) (by assumption) ?_
        rotate_left
        · (intro w hSw; (try dsimp only at hSw); have f8 := ((HT0.out.only hSw (by simp)).at_ HC0.out).1; go_simp; try with_reducible rfl)
        try simp only [List.getElem_toArray, List.getElem_cons_succ, List.getElem_cons_zero, Act.put, List.setIfInBounds_toArray, List.set_cons_zero, List.set_cons_succ]
        refine wpAnyH_ready (rs := [2]) (by kernel_rfl) (by simp) ?_
        refine (AllReadyH.cons rfl (fun K hK => ?_) AllReadyH.nil)
        go_simp
        (go_at_call 36; refine (clone_any wd2 [] _ (byts (unP n π)) (bytC_rd HBd.out HN16.out [] (by simp)) (by rw [byts_length, unP_len]; have := HN16.out; omega)).mono ?_; rintro e wc ⟨v', rfl, hown, ho⟩; have HOW := hide hown; have HOC := hide ho; obtain ⟨Aa, ca, rfl, _, _⟩ := own_form hown; clear hown)
        refine hK.out _ _ (by exact (hHeld.trans ho)) (fun hHeldN => ?_)
        clear hK K hHeld
        have hHeld := hHeldN
        clear hHeldN
        try simp only [List.getElem_toArray, List.getElem_cons_succ, List.getElem_cons_zero, Act.put, List.setIfInBounds_toArray, List.set_cons_zero, List.set_cons_succ]
        clear ho
        refine wpAnyH_take (i := 4) (v := ?_) rfl (by kernel_rfl) (by kernel_rfl) (by kernel_rfl) (fun _ _ _ h => h) (Or.inl ⟨by rfl, ?_⟩) (by assumption) ?_
        rotate_left
        · (intro w hSw; (try dsimp only at hSw); go_simp; try with_reducible rfl)
        try simp only [List.getElem_toArray, List.getElem_cons_succ, List.getElem_cons_zero, Act.put, List.setIfInBounds_toArray, List.set_cons_zero, List.set_cons_succ]
        refine wpAnyH_take (i := 9) (v := ?_) rfl (by kernel_rfl) (by kernel_rfl) (by kernel_rfl) (fun _ _ _ h => h) (Or.inl ⟨by rfl, ?_⟩) (by assumption) ?_
        rotate_left
        · (intro w hSw; (try dsimp only at hSw); go_simp; try with_reducible rfl)
        try simp only [List.getElem_toArray, List.getElem_cons_succ, List.getElem_cons_zero, Act.put, List.setIfInBounds_toArray, List.set_cons_zero, List.set_cons_succ]
        refine wpAnyH_ready (rs := [10]) (by kernel_rfl) (by simp) ?_
        refine (AllReadyH.cons rfl (fun K hK => ?_) AllReadyH.nil)
        go_simp
        (go_at_call 34; refine (hTell l (unP n π, π.length, ow s π) _ wd2 wc HJd.out HOC.out HOd.out HBd.out.lt HLL.out (fun M hM => HOW.out.rd hM)).mono ?_; rintro e wt ⟨rfl, hj, ho, hbk⟩; have HJ5 := hide hj; have HB5 := hide (hbk _ (HBd.out.only HOC.out (by simp))); clear hj hbk)
        refine hK.out _ _ (by exact ho) (fun hHeldN => ?_)
        clear hK K hHeld
        have hHeld := hHeldN
        clear hHeldN
        try simp only [List.getElem_toArray, List.getElem_cons_succ, List.getElem_cons_zero, Act.put, List.setIfInBounds_toArray, List.set_cons_zero, List.set_cons_succ]
        clear ho
        have HON5 := hide hHeld
        refine wpAnyH_done (by kernel_rfl) ?_ _
        go_wp2_with fail
        go_end0
        exact ⟨rfl, HON5.out, HJ5.out, HB5.out⟩
      | false =>
        rw [hth] at d1
        have HNV := hide (show l ++ dfsL (th s) (ow s) n 0 π = l by rw [dfsL, nodeV, hth]; exact List.append_nil l)
        rw [HNV.out]
        have hne : ((π.length : Int) == 8 * (n : Int)) = true := by rw [beq_iff_eq]; omega
        clear hlen hk hb hj hth hkid hon
        go_enter Try.func35, Try.ntmps35
        go_wp2_with fail
        go_end0
        exact ⟨rfl, HON.out, HJ0.out, HB.out⟩
  | succ k ih =>
    intro π l W hk hlen hon hj hb
    cases hc : ad s π with
    | none =>
      have HD := hide (show l ++ dfsL (th s) (ow s) n (k + 1) π = l by rw [dfs_none hT hc, List.append_nil])
      rw [HD.out]
      have HF := hide (show WalkPost_rows w0 J A n π l (.returned (.tuple #[])) W from ⟨rfl, hon, hj, hb⟩)
      simp only [kidV, Option.map_none]
      clear hc hb hj hon hk hlen
      go_enter Try.func35, Try.ntmps35
      go_wp2_with fail
      go_end0
      exact HF.out
    | some p =>
      obtain ⟨g, o⟩ := p
      simp only [kidV, Option.map_some]
      have HTW := hide (hT.only hon (by simp))
      obtain ⟨d0, d1, hkid⟩ := HTW.out.at_ hc
      have k0 := hkid false
      have k1 := hkid true
      simp only [Bool.toNat_false, Bool.toNat_true, Nat.add_zero] at k0 k1
      rw [← Nat.add_assoc] at k1
      have HON := hide hon
      have HB := hide hb
      have HJ0 := hide hj
      have HC0 := hide hc
      have HT0 := hide hT
      have HN16 := hide hn
      cases hth : th s π with
      | true =>
        rw [hth] at d1
        have HNV := hide (show l ++ dfsL (th s) (ow s) n (k + 1) π = (l ++ [(unP n π, π.length, ow s π)]) ++ dfsL (th s) (ow s) n k (false :: π) ++ dfsL (th s) (ow s) n k (true :: π) by rw [dfsL, nodeV, hth, if_pos rfl, List.append_assoc, List.append_assoc])
        rw [HNV.out]
        rw [dfsL, nodeV, hth, if_pos rfl, List.length_append, List.length_append, List.length_singleton] at hlen
        have HLL := hide (show l.length < 90000 by omega)
        have HROW := hide (show (unP n π, π.length, ow s π) = (unP n π, π.length, ow s π) from rfl)
        obtain ⟨L, hL⟩ : ∃ L, L = π.length := ⟨_, rfl⟩
        have hpn : L / 8 < n := by omega
        have hne : ((L : Int) == 8 * (n : Int)) = false := by rw [beq_eq_false_iff_ne]; omega
        have HIF := hide (fun W1 (h1 : Only [] w0 W1) (h2 : J (l ++ [(unP n π, π.length, ow s π)]) W1) (h3 : Blk W1 A 5 (bytC n (false :: π))) => ih (false :: π) (l ++ [(unP n π, π.length, ow s π)]) W1 (by rw [List.length_cons]; omega) (by rw [List.length_append, List.length_singleton]; omega) h1 h2 h3)
        rw [List.length_cons, ← hL, show ((L + 1 : Nat) : Int) = (L : Int) + 1 from by omega] at HIF
        have HIT := hide (fun W1 (h1 : Only [] w0 W1) (h2 : J (l ++ [(unP n π, π.length, ow s π)] ++ dfsL (th s) (ow s) n k (false :: π)) W1) (h3 : Blk W1 A 5 (bytC n (true :: π))) => ih (true :: π) (l ++ [(unP n π, π.length, ow s π)] ++ dfsL (th s) (ow s) n k (false :: π)) W1 (by rw [List.length_cons]; omega) (by rw [List.length_append, List.length_append, List.length_singleton]; omega) h1 h2 h3)
        rw [List.length_cons, ← hL, show ((L + 1 : Nat) : Int) = (L : Int) + 1 from by omega] at HIT
        unfold WalkPost_rows at HIF HIT
        have HTR := hide (bytC_true n π (by rw [← hL]; exact hpn))
        have HBK := hide (bytC_back n π (by rw [← hL]; exact hpn))
        rw [← hL] at HTR HBK
        have hmod := unP_mod n π (L / 8) hpn
        rw [← hL, (room_at rfl).1, show 2 * 2 ^ (7 - L % 8) = 2 ^ (7 - L % 8 + 1) by rw [Nat.pow_succ]; omega] at hmod
        have hcg := bytC_get (n := n) (π := π) hpn
        obtain ⟨c, hcc⟩ : ∃ c, c = ((unP n π).getD (L / 8) 0).toNat := ⟨_, rfl⟩
        have hc256 : c < 256 := by rw [hcc]; exact UInt8.toNat_lt _
        rw [← hcc] at HTR HBK hmod hcg
        obtain ⟨hor, han⟩ := u8_or_nat c (7 - L % 8) hc256 (by omega) hmod
        have HCG := hide hcg
        clear hcc hcg hmod
        rw [← hL]
        have HPN := hide hpn
        have HLQ := hide hL
        have hd : IntKind.i64.wrap ((L : Int) / 8) = ((L / 8 : Nat) : Int) := by rw [IntWalk.i64_in _ (by omega)]; omega
        have hmo : (L : Int).tmod 8 = ((L % 8 : Nat) : Int) := by rw [Int.tmod_eq_emod_of_nonneg (by omega)]; omega
        obtain ⟨q, hq⟩ : ∃ q, q = L / 8 := ⟨_, rfl⟩
        obtain ⟨r, hr⟩ : ∃ r, r = L % 8 := ⟨_, rfl⟩
        obtain ⟨s', hs'⟩ : ∃ s', s' = 7 - r := ⟨_, rfl⟩
        have hs7 : IntKind.i64.wrap (7 - (r : Int)) = (s' : Int) := by rw [IntWalk.i64_in _ (by omega)]; omega
        rw [← hq] at hd
        rw [← hr] at hmo
        have HQ := hide hq
        have HR := hide hr
        have HS' := hide hs'
        rw [← hr, ← hs'] at hor han HTR
        rw [← hq] at HTR HBK HCG HPN
        have HBK2 := HBK
        have HAL := hide (show w0.heap.size ≤ A from hA)
        obtain ⟨y, hy⟩ : ∃ y, y = 2 ^ s' := ⟨_, rfl⟩
        have hw8 : IntKind.u8.wrap ((2 : Int) ^ s') = (y : Int) := by
          have h3 : ((2 ^ s' : Nat) : Int) = (2 : Int) ^ s' := by rw [Int.natCast_pow]; rfl
          have h4 : 2 ^ s' ≤ 2 ^ 7 := Nat.pow_le_pow_right (by decide) (by omega)
          rw [← h3, ← hy, IntKind.wrap_u8]
          omega
        rw [← hy] at hor han HTR
        have HTR3 := hide (show (bytC n (true :: π))[q]? = some (.int .u8 ((c : Int) + (y : Int))) from by rw [← HTR.out, Array.getElem?_setIfInBounds_self_of_lt (by rw [bytC_size]; exact HPN.out)]; congr 2)
        have hy128 : y ≤ 128 := by rw [hy]; exact Nat.pow_le_pow_right (by decide) (show s' ≤ 7 by omega)
        have hs8 : s' ≤ 7 := by omega
        clear hq hr hs' hL hlen hk hon hj hb hth hkid ih hy
        go_enter Try.func35, Try.ntmps35
        go_upto_region 2 with (fail)
        refine wp_region_held_drew (S := fun W' => Only [] w0 W') (by kernel_rfl) (by exact HON.out.drew) (fun hHeld => ?_)
        have HJd := hide (hJ _ _ _ HJ0.out ((Only.refl [A] W).drew))
        have HBd := hide (show Blk W.drew A 5 (bytC n π) from HB.out.drew)
        generalize W.drew = wd2 at *
        have HOd := hide hHeld
        refine wpAnyH_take (i := 0) (v := ?_) rfl (by kernel_rfl) (by kernel_rfl) (by kernel_rfl) (fun _ _ _ h => h) (Or.inl ⟨by rfl, ?_⟩) (by assumption) ?_
        rotate_left
        · (intro w hSw; (try dsimp only at hSw); go_simp; try with_reducible rfl)
        try simp only [List.getElem_toArray, List.getElem_cons_succ, List.getElem_cons_zero, Act.put, List.setIfInBounds_toArray, List.set_cons_zero, List.set_cons_succ]
        refine wpAnyH_take (i := 1) (v := ?_) rfl (by kernel_rfl) (by kernel_rfl) (by kernel_rfl) (fun _ _ _ h => h) (Or.inl ⟨by rfl, ?_⟩) (by assumption) ?_
        rotate_left
        · (intro w hSw; (try dsimp only at hSw); go_simp; try with_reducible rfl)
        try simp only [List.getElem_toArray, List.getElem_cons_succ, List.getElem_cons_zero, Act.put, List.setIfInBounds_toArray, List.set_cons_zero, List.set_cons_succ]
        refine wpAnyH_take (i := 3) (v := ?_) rfl (by kernel_rfl) (by kernel_rfl) (by kernel_rfl) (fun _ _ _ h => h) (Or.inl ⟨by rfl, ?_⟩) (by assumption) ?_
        rotate_left
        · (intro w hSw; (try dsimp only at hSw); go_simp; try with_reducible rfl)
        try simp only [List.getElem_toArray, List.getElem_cons_succ, List.getElem_cons_zero, Act.put, List.setIfInBounds_toArray, List.set_cons_zero, List.set_cons_succ]
        refine wpAnyH_take (i := 5) (v := ?_) rfl (by kernel_rfl) (by kernel_rfl) (by kernel_rfl) (fun _ _ _ h => h) (Or.inl ⟨by rfl, ?_⟩) (by assumption) ?_
        rotate_left
        · (intro w hSw; (try dsimp only at hSw); go_simp; try with_reducible rfl)
        try simp only [List.getElem_toArray, List.getElem_cons_succ, List.getElem_cons_zero, Act.put, List.setIfInBounds_toArray, List.set_cons_zero, List.set_cons_succ]
        refine wpAnyH_take (i := 6) (v := ?_) rfl (by kernel_rfl) (by kernel_rfl) (by kernel_rfl) (fun _ _ _ h => h) (Or.inl ⟨by rfl, ?_⟩) (by assumption) ?_
        rotate_left
        · (intro w hSw; (try dsimp only at hSw); go_simp; try with_reducible rfl)
        try simp only [List.getElem_toArray, List.getElem_cons_succ, List.getElem_cons_zero, Act.put, List.setIfInBounds_toArray, List.set_cons_zero, List.set_cons_succ]
        refine wpAnyH_take (i := 7) (v := ?_) rfl (by kernel_rfl) (by kernel_rfl) (by kernel_rfl) (fun _ _ _ h => h) (Or.inl ⟨by rfl, ?_⟩) (by assumption) ?_
        rotate_left
        · (intro w hSw; (try dsimp only at hSw); go_simp; try with_reducible rfl)
        try simp only [List.getElem_toArray, List.getElem_cons_succ, List.getElem_cons_zero, Act.put, List.setIfInBounds_toArray, List.set_cons_zero, List.set_cons_succ]
        refine wpAnyH_take (i := 8) (v := ?_) rfl (by kernel_rfl) (by kernel_rfl) (by kernel_rfl) (fun _ _ _ h => h) (Or.inl ⟨by rfl, ?_⟩) (by assumption) ?_
        rotate_left
        · (intro w hSw; (try dsimp only at hSw); have f8 := ((HT0.out.only hSw (by simp)).at_ HC0.out).1; go_simp; try with_reducible rfl)
        try simp only [List.getElem_toArray, List.getElem_cons_succ, List.getElem_cons_zero, Act.put, List.setIfInBounds_toArray, List.set_cons_zero, List.set_cons_succ]
        refine wpAnyH_ready (rs := [2]) (by kernel_rfl) (by simp) ?_
        refine (AllReadyH.cons rfl (fun K hK => ?_) AllReadyH.nil)
        go_simp
        (go_at_call 36; refine (clone_any wd2 [] _ (byts (unP n π)) (bytC_rd HBd.out HN16.out [] (by simp)) (by rw [byts_length, unP_len]; have := HN16.out; omega)).mono ?_; rintro e wc ⟨v', rfl, hown, ho⟩; have HOW := hide hown; have HOC := hide ho; obtain ⟨Aa, ca, rfl, _, _⟩ := own_form hown; clear hown)
        refine hK.out _ _ (by exact (hHeld.trans ho)) (fun hHeldN => ?_)
        clear hK K hHeld
        have hHeld := hHeldN
        clear hHeldN
        try simp only [List.getElem_toArray, List.getElem_cons_succ, List.getElem_cons_zero, Act.put, List.setIfInBounds_toArray, List.set_cons_zero, List.set_cons_succ]
        clear ho
        refine wpAnyH_take (i := 4) (v := ?_) rfl (by kernel_rfl) (by kernel_rfl) (by kernel_rfl) (fun _ _ _ h => h) (Or.inl ⟨by rfl, ?_⟩) (by assumption) ?_
        rotate_left
        · (intro w hSw; (try dsimp only at hSw); go_simp; try with_reducible rfl)
        try simp only [List.getElem_toArray, List.getElem_cons_succ, List.getElem_cons_zero, Act.put, List.setIfInBounds_toArray, List.set_cons_zero, List.set_cons_succ]
        refine wpAnyH_take (i := 9) (v := ?_) rfl (by kernel_rfl) (by kernel_rfl) (by kernel_rfl) (fun _ _ _ h => h) (Or.inl ⟨by rfl, ?_⟩) (by assumption) ?_
        rotate_left
        · (intro w hSw; (try dsimp only at hSw); go_simp; try with_reducible rfl)
        try simp only [List.getElem_toArray, List.getElem_cons_succ, List.getElem_cons_zero, Act.put, List.setIfInBounds_toArray, List.set_cons_zero, List.set_cons_succ]
        refine wpAnyH_ready (rs := [10]) (by kernel_rfl) (by simp) ?_
        refine (AllReadyH.cons rfl (fun K hK => ?_) AllReadyH.nil)
        go_simp
        (go_at_call 34; refine (hTell l (unP n π, L, ow s π) _ wd2 wc HJd.out HOC.out HOd.out HBd.out.lt HLL.out (fun M hM => HOW.out.rd hM)).mono ?_; rintro e wt ⟨rfl, hj, ho, hbk⟩; have HJ5 := hide hj; have HB5 := hide (hbk _ (HBd.out.only HOC.out (by simp))); clear hj hbk)
        refine hK.out _ _ (by exact ho) (fun hHeldN => ?_)
        clear hK K hHeld
        have hHeld := hHeldN
        clear hHeldN
        try simp only [List.getElem_toArray, List.getElem_cons_succ, List.getElem_cons_zero, Act.put, List.setIfInBounds_toArray, List.set_cons_zero, List.set_cons_succ]
        clear ho
        have HON5 := hide hHeld
        refine wpAnyH_done (by kernel_rfl) ?_ _
        have HB5f := hide (show Blk wt A 5 (bytC n (false :: π)) from HB5.out)
        have k0 := ((HT0.out.only HON5.out (by simp)).at_ HC0.out).2.2 false
        simp only [Bool.toNat_false, Nat.add_zero] at k0
        have k1 := ((HT0.out.only HON5.out (by simp)).at_ HC0.out).2.2 true
        simp only [Bool.toNat_true] at k1
        rw [← Nat.add_assoc] at k1
        go_upto_region 5 with (first
          | (go_at_call 35; with_reducible refine (HIF.out _ HON5.out HJ5.out HB5f.out).mono ?_; rintro e W1 ⟨rfl, ho1, hj1, hb1⟩; have HO1 := hide ho1; have HJ1 := hide hj1; have HB1 := hide hb1; clear ho1 hj1 hb1))
        go_quiet (fail)
        have HO2 := hide (HO1.out.drewN nq)
        have HJ2 := hide (hJ _ _ _ HJ1.out ((Only.refl [A] W1).drewN nq))
        have HB2 := hide (show Blk (W1.drewN nq) A 5 (bytC n π) from HB1.out.drewN nq)
        generalize W1.drewN nq = W2 at *
        have hqn := HPN.out
        have a0 := HB2.out.cell q
        rw [HCG.out] at a0
        have hfa := HB2.out.frozen q
        have HO3 := hide (HO2.out.setCell (p := ⟨A, q, none⟩) (.inr HAL.out) (.int .u8 ((c + y : Nat) : Int)))
        have HJ3 := hide (hJ _ _ _ HJ2.out ((Only.refl [A] W2).setCell (p := ⟨A, q, none⟩) (.inl (by simp)) (.int .u8 ((c + y : Nat) : Int))))
        have HB3 := hide (show Blk (W2.setCell ⟨A, q, none⟩ (.int .u8 ((c + y : Nat) : Int))) A 5 (bytC n (true :: π)) from by rw [← HTR.out]; exact HB2.out.set_ q _)
        have hcy : ((c + y : Nat) : Int) = (c : Int) + (y : Int) := by omega
        rw [hcy] at hor han HO3 HJ3 HB3
        clear hcy
        go_upto_region 7 with (fail)
        generalize W2.setCell ⟨A, q, none⟩ (.int .u8 ((c : Int) + (y : Int))) = W3 at *
        clear a0 hfa k1
        have k1 := (HT0.out.only HO3.out (by simp)).at_ HC0.out |>.2.2 true
        simp only [Bool.toNat_true] at k1
        rw [← Nat.add_assoc] at k1
        go_upto_region 8 with (first
          | (go_at_call 35; with_reducible refine (HIT.out _ HO3.out HJ3.out HB3.out).mono ?_; rintro e W4 ⟨rfl, ho1, hj1, hb1⟩; have HO4 := hide ho1; have HJ4 := hide hj1; have HB4 := hide hb1; clear ho1 hj1 hb1))
        have b0 := HB4.out.cell q
        have hq3 : (bytC n (true :: π))[q]? = some (.int .u8 ((c : Int) + (y : Int))) := by rw [HTR3.out]
        rw [hq3] at b0
        have hfb := HB4.out.frozen q
        clear hq3
        go_wp2_with fail
        go_end0
        exact ⟨rfl, HO4.out.setCell (p := ⟨A, q, none⟩) (.inr HAL.out) _, hJ _ _ _ HJ4.out ((Only.refl [A] W4).setCell (p := ⟨A, q, none⟩) (.inl (by simp)) _), by rw [← HBK2.out]; exact HB4.out.set_ q _⟩
      | false =>
        rw [hth] at d1
        have HNV := hide (show l ++ dfsL (th s) (ow s) n (k + 1) π = l ++ dfsL (th s) (ow s) n k (false :: π) ++ dfsL (th s) (ow s) n k (true :: π) by rw [dfsL, nodeV, hth, if_neg (by decide), List.nil_append, List.append_assoc])
        rw [HNV.out]
        rw [dfsL, nodeV, hth, if_neg (by decide), List.nil_append, List.length_append] at hlen
        obtain ⟨L, hL⟩ : ∃ L, L = π.length := ⟨_, rfl⟩
        have hpn : L / 8 < n := by omega
        have hne : ((L : Int) == 8 * (n : Int)) = false := by rw [beq_eq_false_iff_ne]; omega
        have HIF := hide (ih (false :: π) l W (by rw [List.length_cons]; omega) (by omega) hon hj hb)
        rw [List.length_cons, ← hL, show ((L + 1 : Nat) : Int) = (L : Int) + 1 from by omega] at HIF
        have HIT := hide (fun W1 (h1 : Only [] w0 W1) (h2 : J (l ++ dfsL (th s) (ow s) n k (false :: π)) W1) (h3 : Blk W1 A 5 (bytC n (true :: π))) => ih (true :: π) (l ++ dfsL (th s) (ow s) n k (false :: π)) W1 (by rw [List.length_cons]; omega) (by rw [List.length_append]; omega) h1 h2 h3)
        rw [List.length_cons, ← hL, show ((L + 1 : Nat) : Int) = (L : Int) + 1 from by omega] at HIT
        unfold WalkPost_rows at HIF HIT
        have HTR := hide (bytC_true n π (by rw [← hL]; exact hpn))
        have HBK := hide (bytC_back n π (by rw [← hL]; exact hpn))
        rw [← hL] at HTR HBK
        have hmod := unP_mod n π (L / 8) hpn
        rw [← hL, (room_at rfl).1, show 2 * 2 ^ (7 - L % 8) = 2 ^ (7 - L % 8 + 1) by rw [Nat.pow_succ]; omega] at hmod
        have hcg := bytC_get (n := n) (π := π) hpn
        obtain ⟨c, hcc⟩ : ∃ c, c = ((unP n π).getD (L / 8) 0).toNat := ⟨_, rfl⟩
        have hc256 : c < 256 := by rw [hcc]; exact UInt8.toNat_lt _
        rw [← hcc] at HTR HBK hmod hcg
        obtain ⟨hor, han⟩ := u8_or_nat c (7 - L % 8) hc256 (by omega) hmod
        have HCG := hide hcg
        clear hcc hcg hmod
        rw [← hL]
        have HPN := hide hpn
        have HLQ := hide hL
        have hd : IntKind.i64.wrap ((L : Int) / 8) = ((L / 8 : Nat) : Int) := by rw [IntWalk.i64_in _ (by omega)]; omega
        have hmo : (L : Int).tmod 8 = ((L % 8 : Nat) : Int) := by rw [Int.tmod_eq_emod_of_nonneg (by omega)]; omega
        obtain ⟨q, hq⟩ : ∃ q, q = L / 8 := ⟨_, rfl⟩
        obtain ⟨r, hr⟩ : ∃ r, r = L % 8 := ⟨_, rfl⟩
        obtain ⟨s', hs'⟩ : ∃ s', s' = 7 - r := ⟨_, rfl⟩
        have hs7 : IntKind.i64.wrap (7 - (r : Int)) = (s' : Int) := by rw [IntWalk.i64_in _ (by omega)]; omega
        rw [← hq] at hd
        rw [← hr] at hmo
        have HQ := hide hq
        have HR := hide hr
        have HS' := hide hs'
        rw [← hr, ← hs'] at hor han HTR
        rw [← hq] at HTR HBK HCG HPN
        have HBK2 := HBK
        have HAL := hide (show w0.heap.size ≤ A from hA)
        obtain ⟨y, hy⟩ : ∃ y, y = 2 ^ s' := ⟨_, rfl⟩
        have hw8 : IntKind.u8.wrap ((2 : Int) ^ s') = (y : Int) := by
          have h3 : ((2 ^ s' : Nat) : Int) = (2 : Int) ^ s' := by rw [Int.natCast_pow]; rfl
          have h4 : 2 ^ s' ≤ 2 ^ 7 := Nat.pow_le_pow_right (by decide) (by omega)
          rw [← h3, ← hy, IntKind.wrap_u8]
          omega
        rw [← hy] at hor han HTR
        have HTR3 := hide (show (bytC n (true :: π))[q]? = some (.int .u8 ((c : Int) + (y : Int))) from by rw [← HTR.out, Array.getElem?_setIfInBounds_self_of_lt (by rw [bytC_size]; exact HPN.out)]; congr 2)
        have hy128 : y ≤ 128 := by rw [hy]; exact Nat.pow_le_pow_right (by decide) (show s' ≤ 7 by omega)
        have hs8 : s' ≤ 7 := by omega
        clear hq hr hs' hL hlen hk hon hj hb hth hkid ih hy
        go_enter Try.func35, Try.ntmps35
        go_upto_region 5 with (first
          | (go_at_call 35; with_reducible refine HIF.out.mono ?_; rintro e W1 ⟨rfl, ho1, hj1, hb1⟩; have HO1 := hide ho1; have HJ1 := hide hj1; have HB1 := hide hb1; clear ho1 hj1 hb1))
        go_quiet (fail)
        have HO2 := hide (HO1.out.drewN nq)
        have HJ2 := hide (hJ _ _ _ HJ1.out ((Only.refl [A] W1).drewN nq))
        have HB2 := hide (show Blk (W1.drewN nq) A 5 (bytC n π) from HB1.out.drewN nq)
        generalize W1.drewN nq = W2 at *
        have hqn := HPN.out
        have a0 := HB2.out.cell q
        rw [HCG.out] at a0
        have hfa := HB2.out.frozen q
        have HO3 := hide (HO2.out.setCell (p := ⟨A, q, none⟩) (.inr HAL.out) (.int .u8 ((c + y : Nat) : Int)))
        have HJ3 := hide (hJ _ _ _ HJ2.out ((Only.refl [A] W2).setCell (p := ⟨A, q, none⟩) (.inl (by simp)) (.int .u8 ((c + y : Nat) : Int))))
        have HB3 := hide (show Blk (W2.setCell ⟨A, q, none⟩ (.int .u8 ((c + y : Nat) : Int))) A 5 (bytC n (true :: π)) from by rw [← HTR.out]; exact HB2.out.set_ q _)
        have hcy : ((c + y : Nat) : Int) = (c : Int) + (y : Int) := by omega
        rw [hcy] at hor han HO3 HJ3 HB3
        clear hcy
        go_upto_region 7 with (fail)
        generalize W2.setCell ⟨A, q, none⟩ (.int .u8 ((c : Int) + (y : Int))) = W3 at *
        clear a0 hfa k1
        have k1 := (HT0.out.only HO3.out (by simp)).at_ HC0.out |>.2.2 true
        simp only [Bool.toNat_true] at k1
        rw [← Nat.add_assoc] at k1
        go_upto_region 8 with (first
          | (go_at_call 35; with_reducible refine (HIT.out _ HO3.out HJ3.out HB3.out).mono ?_; rintro e W4 ⟨rfl, ho1, hj1, hb1⟩; have HO4 := hide ho1; have HJ4 := hide hj1; have HB4 := hide hb1; clear ho1 hj1 hb1))
        have b0 := HB4.out.cell q
        have hq3 : (bytC n (true :: π))[q]? = some (.int .u8 ((c : Int) + (y : Int))) := by rw [HTR3.out]
        rw [hq3] at b0
        have hfb := HB4.out.frozen q
        clear hq3
        go_wp2_with fail
        go_end0
        exact ⟨rfl, HO4.out.setCell (p := ⟨A, q, none⟩) (.inr HAL.out) _, hJ _ _ _ HJ4.out ((Only.refl [A] W4).setCell (p := ⟨A, q, none⟩) (.inl (by simp)) _), by rw [← HBK2.out]; exact HB4.out.set_ q _⟩
end

def WalkPost_of (w0 : World) (J : List Rw → World → Prop) (A n : Nat) (π : List Bool) (l : List Rw) (e : Ending) (W' : World) : Prop := e = .returned (.tuple #[]) ∧ Only [] w0 W' ∧ J l W' ∧ Blk W' A 5 (bytC n π)
section
variable (T : Nat) (bl : List Nat) (ad : Ads) (th : ThF) (ow : OwF) (s : Bool) (n : Nat) (w0 : World) (J : List Rw → World → Prop) (A : Nat) (oq bo : Nat)
set_option maxRecDepth 100000 in
set_option maxHeartbeats 12800000 in
theorem walk_of (hT : TrIs w0 T bl ad th ow) (hn : n ≤ 16) (hA : w0.heap.size ≤ A)
    (hJ : ∀ l W W', J l W → Only [A] W W' → J l W')
    (hTell : ∀ l (r : Rw) av Wp W, J l Wp → Only [] Wp W → Only [] w0 Wp → A < Wp.heap.size → l.length < 90000 → (∀ M : List Nat, (∀ x ∈ M, x < Wp.heap.size) → Rd W M av (ints .u8 (byts r.1))) → Calls Try.prog 33 #[.agg #[av, .int .i64 r.2.1, .int .i64 r.2.2], .pointer (some ⟨oq, 0, none⟩), .pointer (some ⟨bo, 0, none⟩)] W fun e W' => e = .returned (.tuple #[]) ∧ J (l ++ [r]) W' ∧ Only [] w0 W' ∧ ∀ cs, Blk W A 5 cs → Blk W' A 5 cs) :
    ∀ (k : Nat) (π : List Bool) (l : List Rw) (W : World), π.length + k = 8 * n → l.length + (dfsL (th s) (ow s) n k π).length ≤ 80000 → Only [] w0 W → J l W → Blk W A 5 (bytC n π) →
      Calls Try.prog 35 #[kidV (ad s π), .slice (some ⟨A, 0, none⟩) n n, .int .i64 (π.length : Int), .func (.func 33) #[] #[.pointer (some ⟨oq, 0, none⟩), .pointer (some ⟨bo, 0, none⟩)]] W (WalkPost_of w0 J A n π (l ++ dfsL (th s) (ow s) n k π)) := by
  intro k
  induction k with
  | zero =>
    intro π l W hk hlen hon hj hb
    cases hc : ad s π with
    | none =>
      have HD := hide (show l ++ dfsL (th s) (ow s) n 0 π = l by rw [dfs_none hT hc, List.append_nil])
      rw [HD.out]
      have HF := hide (show WalkPost_of w0 J A n π l (.returned (.tuple #[])) W from ⟨rfl, hon, hj, hb⟩)
      simp only [kidV, Option.map_none]
      clear hc hb hj hon hk hlen
      go_enter Try.func35, Try.ntmps35
      go_wp2_with fail
      go_end0
      exact HF.out
    | some p =>
      obtain ⟨g, o⟩ := p
      simp only [kidV, Option.map_some]
      have HTW := hide (hT.only hon (by simp))
      obtain ⟨d0, d1, hkid⟩ := HTW.out.at_ hc
      have k0 := hkid false
      have k1 := hkid true
      simp only [Bool.toNat_false, Bool.toNat_true, Nat.add_zero] at k0 k1
      rw [← Nat.add_assoc] at k1
      have HON := hide hon
      have HB := hide hb
      have HJ0 := hide hj
      have HC0 := hide hc
      have HT0 := hide hT
      have HN16 := hide hn
      cases hth : th s π with
      | true =>
        rw [hth] at d1
        have HNV := hide (show l ++ dfsL (th s) (ow s) n 0 π = (l ++ [(unP n π, π.length, ow s π)]) by rw [dfsL, nodeV, hth]; rfl)
        rw [HNV.out]
        have hne : ((π.length : Int) == 8 * (n : Int)) = true := by rw [beq_iff_eq]; omega
        have HLL := hide (show l.length < 90000 by omega)
        clear hlen hk hb hj hth hkid hon
        go_enter Try.func35, Try.ntmps35
        go_upto_region 2 with (fail)
        refine wp_region_held_drew (S := fun W' => Only [] w0 W') (by kernel_rfl) (by exact HON.out.drew) (fun hHeld => ?_)
        have HJd := hide (hJ _ _ _ HJ0.out ((Only.refl [A] W).drew))
        have HBd := hide (show Blk W.drew A 5 (bytC n π) from HB.out.drew)
        generalize W.drew = wd2 at *
        have HOd := hide hHeld
        refine wpAnyH_take (i := 0) (v := ?_) rfl (by kernel_rfl) (by kernel_rfl) (by kernel_rfl) (fun _ _ _ h => h) (Or.inl ⟨by rfl, ?_⟩) (by assumption) ?_
        rotate_left
        · (intro w hSw; (try dsimp only at hSw); go_simp; try with_reducible rfl)
        try simp only [List.getElem_toArray, List.getElem_cons_succ, List.getElem_cons_zero, Act.put, List.setIfInBounds_toArray, List.set_cons_zero, List.set_cons_succ]
        refine wpAnyH_take (i := 1) (v := ?_) rfl (by kernel_rfl) (by kernel_rfl) (by kernel_rfl) (fun _ _ _ h => h) (Or.inl ⟨by rfl, ?_⟩) (by assumption) ?_
        rotate_left
        · (intro w hSw; (try dsimp only at hSw); go_simp; try with_reducible rfl)
        try simp only [List.getElem_toArray, List.getElem_cons_succ, List.getElem_cons_zero, Act.put, List.setIfInBounds_toArray, List.set_cons_zero, List.set_cons_succ]
        refine wpAnyH_take (i := 3) (v := ?_) rfl (by kernel_rfl) (by kernel_rfl) (by kernel_rfl) (fun _ _ _ h => h) (Or.inl ⟨by rfl, ?_⟩) (by assumption) ?_
        rotate_left
        · (intro w hSw; (try dsimp only at hSw); go_simp; try with_reducible rfl)
        try simp only [List.getElem_toArray, List.getElem_cons_succ, List.getElem_cons_zero, Act.put, List.setIfInBounds_toArray, List.set_cons_zero, List.set_cons_succ]
        refine wpAnyH_take (i := 5) (v := ?_) rfl (by kernel_rfl) (by kernel_rfl) (by kernel_rfl) (fun _ _ _ h => h) (Or.inl ⟨by rfl, ?_⟩) (by assumption) ?_
        rotate_left
        · (intro w hSw; (try dsimp only at hSw); go_simp; try with_reducible rfl)
        try simp only [List.getElem_toArray, List.getElem_cons_succ, List.getElem_cons_zero, Act.put, List.setIfInBounds_toArray, List.set_cons_zero, List.set_cons_succ]
        refine wpAnyH_take (i := 6) (v := ?_) rfl (by kernel_rfl) (by kernel_rfl) (by kernel_rfl) (fun _ _ _ h => h) (Or.inl ⟨by rfl, ?_⟩) (by assumption) ?_
        rotate_left
        · (intro w hSw; (try dsimp only at hSw); go_simp; try with_reducible rfl)
        try simp only [List.getElem_toArray, List.getElem_cons_succ, List.getElem_cons_zero, Act.put, List.setIfInBounds_toArray, List.set_cons_zero, List.set_cons_succ]
        refine wpAnyH_take (i := 7) (v := ?_) rfl (by kernel_rfl) (by kernel_rfl) (by kernel_rfl) (fun _ _ _ h => h) (Or.inl ⟨by rfl, ?_⟩) (by assumption) ?_
        rotate_left
        · (intro w hSw; (try dsimp only at hSw); go_simp; try with_reducible rfl)
        try simp only [List.getElem_toArray, List.getElem_cons_succ, List.getElem_cons_zero, Act.put, List.setIfInBounds_toArray, List.set_cons_zero, List.set_cons_succ]
        refine wpAnyH_take (i := 8) (v := ?_) rfl (by kernel_rfl) (by kernel_rfl) (by kernel_rfl) (fun _ _ _ h => h) (Or.inl ⟨by rfl, ?_⟩) (by assumption) ?_
        rotate_left
        · (intro w hSw; (try dsimp only at hSw); have f8 := ((HT0.out.only hSw (by simp)).at_ HC0.out).1; go_simp; try with_reducible rfl)
        try simp only [List.getElem_toArray, List.getElem_cons_succ, List.getElem_cons_zero, Act.put, List.setIfInBounds_toArray, List.set_cons_zero, List.set_cons_succ]
        refine wpAnyH_ready (rs := [2]) (by kernel_rfl) (by simp) ?_
        refine (AllReadyH.cons rfl (fun K hK => ?_) AllReadyH.nil)
        go_simp
        (go_at_call 36; refine (clone_any wd2 [] _ (byts (unP n π)) (bytC_rd HBd.out HN16.out [] (by simp)) (by rw [byts_length, unP_len]; have := HN16.out; omega)).mono ?_; rintro e wc ⟨v', rfl, hown, ho⟩; have HOW := hide hown; have HOC := hide ho; obtain ⟨Aa, ca, rfl, _, _⟩ := own_form hown; clear hown)
        refine hK.out _ _ (by exact (hHeld.trans ho)) (fun hHeldN => ?_)
        clear hK K hHeld
        have hHeld := hHeldN
        clear hHeldN
        try simp only [List.getElem_toArray, List.getElem_cons_succ, List.getElem_cons_zero, Act.put, List.setIfInBounds_toArray, List.set_cons_zero, List.set_cons_succ]
        clear ho
        refine wpAnyH_take (i := 4) (v := ?_) rfl (by kernel_rfl) (by kernel_rfl) (by kernel_rfl) (fun _ _ _ h => h) (Or.inl ⟨by rfl, ?_⟩) (by assumption) ?_
        rotate_left
        · (intro w hSw; (try dsimp only at hSw); go_simp; try with_reducible rfl)
        try simp only [List.getElem_toArray, List.getElem_cons_succ, List.getElem_cons_zero, Act.put, List.setIfInBounds_toArray, List.set_cons_zero, List.set_cons_succ]
        refine wpAnyH_take (i := 9) (v := ?_) rfl (by kernel_rfl) (by kernel_rfl) (by kernel_rfl) (fun _ _ _ h => h) (Or.inl ⟨by rfl, ?_⟩) (by assumption) ?_
        rotate_left
        · (intro w hSw; (try dsimp only at hSw); go_simp; try with_reducible rfl)
        try simp only [List.getElem_toArray, List.getElem_cons_succ, List.getElem_cons_zero, Act.put, List.setIfInBounds_toArray, List.set_cons_zero, List.set_cons_succ]
        refine wpAnyH_ready (rs := [10]) (by kernel_rfl) (by simp) ?_
        refine (AllReadyH.cons rfl (fun K hK => ?_) AllReadyH.nil)
        go_simp
        (go_at_call 33; refine (hTell l (unP n π, π.length, ow s π) _ wd2 wc HJd.out HOC.out HOd.out HBd.out.lt HLL.out (fun M hM => HOW.out.rd hM)).mono ?_; rintro e wt ⟨rfl, hj, ho, hbk⟩; have HJ5 := hide hj; have HB5 := hide (hbk _ (HBd.out.only HOC.out (by simp))); clear hj hbk)
        refine hK.out _ _ (by exact ho) (fun hHeldN => ?_)
        clear hK K hHeld
        have hHeld := hHeldN
        clear hHeldN
        try simp only [List.getElem_toArray, List.getElem_cons_succ, List.getElem_cons_zero, Act.put, List.setIfInBounds_toArray, List.set_cons_zero, List.set_cons_succ]
        clear ho
        have HON5 := hide hHeld
        refine wpAnyH_done (by kernel_rfl) ?_ _
        go_wp2_with fail
        go_end0
        exact ⟨rfl, HON5.out, HJ5.out, HB5.out⟩
      | false =>
        rw [hth] at d1
        have HNV := hide (show l ++ dfsL (th s) (ow s) n 0 π = l by rw [dfsL, nodeV, hth]; exact List.append_nil l)
        rw [HNV.out]
        have hne : ((π.length : Int) == 8 * (n : Int)) = true := by rw [beq_iff_eq]; omega
        clear hlen hk hb hj hth hkid hon
        go_enter Try.func35, Try.ntmps35
        go_wp2_with fail
        go_end0
        exact ⟨rfl, HON.out, HJ0.out, HB.out⟩
  | succ k ih =>
    intro π l W hk hlen hon hj hb
    cases hc : ad s π with
    | none =>
      have HD := hide (show l ++ dfsL (th s) (ow s) n (k + 1) π = l by rw [dfs_none hT hc, List.append_nil])
      rw [HD.out]
      have HF := hide (show WalkPost_of w0 J A n π l (.returned (.tuple #[])) W from ⟨rfl, hon, hj, hb⟩)
      simp only [kidV, Option.map_none]
      clear hc hb hj hon hk hlen
      go_enter Try.func35, Try.ntmps35
      go_wp2_with fail
      go_end0
      exact HF.out
    | some p =>
      obtain ⟨g, o⟩ := p
      simp only [kidV, Option.map_some]
      have HTW := hide (hT.only hon (by simp))
      obtain ⟨d0, d1, hkid⟩ := HTW.out.at_ hc
      have k0 := hkid false
      have k1 := hkid true
      simp only [Bool.toNat_false, Bool.toNat_true, Nat.add_zero] at k0 k1
      rw [← Nat.add_assoc] at k1
      have HON := hide hon
      have HB := hide hb
      have HJ0 := hide hj
      have HC0 := hide hc
      have HT0 := hide hT
      have HN16 := hide hn
      cases hth : th s π with
      | true =>
        rw [hth] at d1
        have HNV := hide (show l ++ dfsL (th s) (ow s) n (k + 1) π = (l ++ [(unP n π, π.length, ow s π)]) ++ dfsL (th s) (ow s) n k (false :: π) ++ dfsL (th s) (ow s) n k (true :: π) by rw [dfsL, nodeV, hth, if_pos rfl, List.append_assoc, List.append_assoc])
        rw [HNV.out]
        rw [dfsL, nodeV, hth, if_pos rfl, List.length_append, List.length_append, List.length_singleton] at hlen
        have HLL := hide (show l.length < 90000 by omega)
        have HROW := hide (show (unP n π, π.length, ow s π) = (unP n π, π.length, ow s π) from rfl)
        obtain ⟨L, hL⟩ : ∃ L, L = π.length := ⟨_, rfl⟩
        have hpn : L / 8 < n := by omega
        have hne : ((L : Int) == 8 * (n : Int)) = false := by rw [beq_eq_false_iff_ne]; omega
        have HIF := hide (fun W1 (h1 : Only [] w0 W1) (h2 : J (l ++ [(unP n π, π.length, ow s π)]) W1) (h3 : Blk W1 A 5 (bytC n (false :: π))) => ih (false :: π) (l ++ [(unP n π, π.length, ow s π)]) W1 (by rw [List.length_cons]; omega) (by rw [List.length_append, List.length_singleton]; omega) h1 h2 h3)
        rw [List.length_cons, ← hL, show ((L + 1 : Nat) : Int) = (L : Int) + 1 from by omega] at HIF
        have HIT := hide (fun W1 (h1 : Only [] w0 W1) (h2 : J (l ++ [(unP n π, π.length, ow s π)] ++ dfsL (th s) (ow s) n k (false :: π)) W1) (h3 : Blk W1 A 5 (bytC n (true :: π))) => ih (true :: π) (l ++ [(unP n π, π.length, ow s π)] ++ dfsL (th s) (ow s) n k (false :: π)) W1 (by rw [List.length_cons]; omega) (by rw [List.length_append, List.length_append, List.length_singleton]; omega) h1 h2 h3)
        rw [List.length_cons, ← hL, show ((L + 1 : Nat) : Int) = (L : Int) + 1 from by omega] at HIT
        unfold WalkPost_of at HIF HIT
        have HTR := hide (bytC_true n π (by rw [← hL]; exact hpn))
        have HBK := hide (bytC_back n π (by rw [← hL]; exact hpn))
        rw [← hL] at HTR HBK
        have hmod := unP_mod n π (L / 8) hpn
        rw [← hL, (room_at rfl).1, show 2 * 2 ^ (7 - L % 8) = 2 ^ (7 - L % 8 + 1) by rw [Nat.pow_succ]; omega] at hmod
        have hcg := bytC_get (n := n) (π := π) hpn
        obtain ⟨c, hcc⟩ : ∃ c, c = ((unP n π).getD (L / 8) 0).toNat := ⟨_, rfl⟩
        have hc256 : c < 256 := by rw [hcc]; exact UInt8.toNat_lt _
        rw [← hcc] at HTR HBK hmod hcg
        obtain ⟨hor, han⟩ := u8_or_nat c (7 - L % 8) hc256 (by omega) hmod
        have HCG := hide hcg
        clear hcc hcg hmod
        rw [← hL]
        have HPN := hide hpn
        have HLQ := hide hL
        have hd : IntKind.i64.wrap ((L : Int) / 8) = ((L / 8 : Nat) : Int) := by rw [IntWalk.i64_in _ (by omega)]; omega
        have hmo : (L : Int).tmod 8 = ((L % 8 : Nat) : Int) := by rw [Int.tmod_eq_emod_of_nonneg (by omega)]; omega
        obtain ⟨q, hq⟩ : ∃ q, q = L / 8 := ⟨_, rfl⟩
        obtain ⟨r, hr⟩ : ∃ r, r = L % 8 := ⟨_, rfl⟩
        obtain ⟨s', hs'⟩ : ∃ s', s' = 7 - r := ⟨_, rfl⟩
        have hs7 : IntKind.i64.wrap (7 - (r : Int)) = (s' : Int) := by rw [IntWalk.i64_in _ (by omega)]; omega
        rw [← hq] at hd
        rw [← hr] at hmo
        have HQ := hide hq
        have HR := hide hr
        have HS' := hide hs'
        rw [← hr, ← hs'] at hor han HTR
        rw [← hq] at HTR HBK HCG HPN
        have HBK2 := HBK
        have HAL := hide (show w0.heap.size ≤ A from hA)
        obtain ⟨y, hy⟩ : ∃ y, y = 2 ^ s' := ⟨_, rfl⟩
        have hw8 : IntKind.u8.wrap ((2 : Int) ^ s') = (y : Int) := by
          have h3 : ((2 ^ s' : Nat) : Int) = (2 : Int) ^ s' := by rw [Int.natCast_pow]; rfl
          have h4 : 2 ^ s' ≤ 2 ^ 7 := Nat.pow_le_pow_right (by decide) (by omega)
          rw [← h3, ← hy, IntKind.wrap_u8]
          omega
        rw [← hy] at hor han HTR
        have HTR3 := hide (show (bytC n (true :: π))[q]? = some (.int .u8 ((c : Int) + (y : Int))) from by rw [← HTR.out, Array.getElem?_setIfInBounds_self_of_lt (by rw [bytC_size]; exact HPN.out)]; congr 2)
        have hy128 : y ≤ 128 := by rw [hy]; exact Nat.pow_le_pow_right (by decide) (show s' ≤ 7 by omega)
        have hs8 : s' ≤ 7 := by omega
        clear hq hr hs' hL hlen hk hon hj hb hth hkid ih hy
        go_enter Try.func35, Try.ntmps35
        go_upto_region 2 with (fail)
        refine wp_region_held_drew (S := fun W' => Only [] w0 W') (by kernel_rfl) (by exact HON.out.drew) (fun hHeld => ?_)
        have HJd := hide (hJ _ _ _ HJ0.out ((Only.refl [A] W).drew))
        have HBd := hide (show Blk W.drew A 5 (bytC n π) from HB.out.drew)
        generalize W.drew = wd2 at *
        have HOd := hide hHeld
        refine wpAnyH_take (i := 0) (v := ?_) rfl (by kernel_rfl) (by kernel_rfl) (by kernel_rfl) (fun _ _ _ h => h) (Or.inl ⟨by rfl, ?_⟩) (by assumption) ?_
        rotate_left
        · (intro w hSw; (try dsimp only at hSw); go_simp; try with_reducible rfl)
        try simp only [List.getElem_toArray, List.getElem_cons_succ, List.getElem_cons_zero, Act.put, List.setIfInBounds_toArray, List.set_cons_zero, List.set_cons_succ]
        refine wpAnyH_take (i := 1) (v := ?_) rfl (by kernel_rfl) (by kernel_rfl) (by kernel_rfl) (fun _ _ _ h => h) (Or.inl ⟨by rfl, ?_⟩) (by assumption) ?_
        rotate_left
        · (intro w hSw; (try dsimp only at hSw); go_simp; try with_reducible rfl)
        try simp only [List.getElem_toArray, List.getElem_cons_succ, List.getElem_cons_zero, Act.put, List.setIfInBounds_toArray, List.set_cons_zero, List.set_cons_succ]
        refine wpAnyH_take (i := 3) (v := ?_) rfl (by kernel_rfl) (by kernel_rfl) (by kernel_rfl) (fun _ _ _ h => h) (Or.inl ⟨by rfl, ?_⟩) (by assumption) ?_
        rotate_left
        · (intro w hSw; (try dsimp only at hSw); go_simp; try with_reducible rfl)
        try simp only [List.getElem_toArray, List.getElem_cons_succ, List.getElem_cons_zero, Act.put, List.setIfInBounds_toArray, List.set_cons_zero, List.set_cons_succ]
        refine wpAnyH_take (i := 5) (v := ?_) rfl (by kernel_rfl) (by kernel_rfl) (by kernel_rfl) (fun _ _ _ h => h) (Or.inl ⟨by rfl, ?_⟩) (by assumption) ?_
        rotate_left
        · (intro w hSw; (try dsimp only at hSw); go_simp; try with_reducible rfl)
        try simp only [List.getElem_toArray, List.getElem_cons_succ, List.getElem_cons_zero, Act.put, List.setIfInBounds_toArray, List.set_cons_zero, List.set_cons_succ]
        refine wpAnyH_take (i := 6) (v := ?_) rfl (by kernel_rfl) (by kernel_rfl) (by kernel_rfl) (fun _ _ _ h => h) (Or.inl ⟨by rfl, ?_⟩) (by assumption) ?_
        rotate_left
        · (intro w hSw; (try dsimp only at hSw); go_simp; try with_reducible rfl)
        try simp only [List.getElem_toArray, List.getElem_cons_succ, List.getElem_cons_zero, Act.put, List.setIfInBounds_toArray, List.set_cons_zero, List.set_cons_succ]
        refine wpAnyH_take (i := 7) (v := ?_) rfl (by kernel_rfl) (by kernel_rfl) (by kernel_rfl) (fun _ _ _ h => h) (Or.inl ⟨by rfl, ?_⟩) (by assumption) ?_
        rotate_left
        · (intro w hSw; (try dsimp only at hSw); go_simp; try with_reducible rfl)
        try simp only [List.getElem_toArray, List.getElem_cons_succ, List.getElem_cons_zero, Act.put, List.setIfInBounds_toArray, List.set_cons_zero, List.set_cons_succ]
        refine wpAnyH_take (i := 8) (v := ?_) rfl (by kernel_rfl) (by kernel_rfl) (by kernel_rfl) (fun _ _ _ h => h) (Or.inl ⟨by rfl, ?_⟩) (by assumption) ?_
        rotate_left
        · (intro w hSw; (try dsimp only at hSw); have f8 := ((HT0.out.only hSw (by simp)).at_ HC0.out).1; go_simp; try with_reducible rfl)
        try simp only [List.getElem_toArray, List.getElem_cons_succ, List.getElem_cons_zero, Act.put, List.setIfInBounds_toArray, List.set_cons_zero, List.set_cons_succ]
        refine wpAnyH_ready (rs := [2]) (by kernel_rfl) (by simp) ?_
        refine (AllReadyH.cons rfl (fun K hK => ?_) AllReadyH.nil)
        go_simp
        (go_at_call 36; refine (clone_any wd2 [] _ (byts (unP n π)) (bytC_rd HBd.out HN16.out [] (by simp)) (by rw [byts_length, unP_len]; have := HN16.out; omega)).mono ?_; rintro e wc ⟨v', rfl, hown, ho⟩; have HOW := hide hown; have HOC := hide ho; obtain ⟨Aa, ca, rfl, _, _⟩ := own_form hown; clear hown)
        refine hK.out _ _ (by exact (hHeld.trans ho)) (fun hHeldN => ?_)
        clear hK K hHeld
        have hHeld := hHeldN
        clear hHeldN
        try simp only [List.getElem_toArray, List.getElem_cons_succ, List.getElem_cons_zero, Act.put, List.setIfInBounds_toArray, List.set_cons_zero, List.set_cons_succ]
        clear ho
        refine wpAnyH_take (i := 4) (v := ?_) rfl (by kernel_rfl) (by kernel_rfl) (by kernel_rfl) (fun _ _ _ h => h) (Or.inl ⟨by rfl, ?_⟩) (by assumption) ?_
        rotate_left
        · (intro w hSw; (try dsimp only at hSw); go_simp; try with_reducible rfl)
        try simp only [List.getElem_toArray, List.getElem_cons_succ, List.getElem_cons_zero, Act.put, List.setIfInBounds_toArray, List.set_cons_zero, List.set_cons_succ]
        refine wpAnyH_take (i := 9) (v := ?_) rfl (by kernel_rfl) (by kernel_rfl) (by kernel_rfl) (fun _ _ _ h => h) (Or.inl ⟨by rfl, ?_⟩) (by assumption) ?_
        rotate_left
        · (intro w hSw; (try dsimp only at hSw); go_simp; try with_reducible rfl)
        try simp only [List.getElem_toArray, List.getElem_cons_succ, List.getElem_cons_zero, Act.put, List.setIfInBounds_toArray, List.set_cons_zero, List.set_cons_succ]
        refine wpAnyH_ready (rs := [10]) (by kernel_rfl) (by simp) ?_
        refine (AllReadyH.cons rfl (fun K hK => ?_) AllReadyH.nil)
        go_simp
        (go_at_call 33; refine (hTell l (unP n π, L, ow s π) _ wd2 wc HJd.out HOC.out HOd.out HBd.out.lt HLL.out (fun M hM => HOW.out.rd hM)).mono ?_; rintro e wt ⟨rfl, hj, ho, hbk⟩; have HJ5 := hide hj; have HB5 := hide (hbk _ (HBd.out.only HOC.out (by simp))); clear hj hbk)
        refine hK.out _ _ (by exact ho) (fun hHeldN => ?_)
        clear hK K hHeld
        have hHeld := hHeldN
        clear hHeldN
        try simp only [List.getElem_toArray, List.getElem_cons_succ, List.getElem_cons_zero, Act.put, List.setIfInBounds_toArray, List.set_cons_zero, List.set_cons_succ]
        clear ho
        have HON5 := hide hHeld
        refine wpAnyH_done (by kernel_rfl) ?_ _
        have HB5f := hide (show Blk wt A 5 (bytC n (false :: π)) from HB5.out)
        have k0 := ((HT0.out.only HON5.out (by simp)).at_ HC0.out).2.2 false
        simp only [Bool.toNat_false, Nat.add_zero] at k0
        have k1 := ((HT0.out.only HON5.out (by simp)).at_ HC0.out).2.2 true
        simp only [Bool.toNat_true] at k1
        rw [← Nat.add_assoc] at k1
        go_upto_region 5 with (first
          | (go_at_call 35; with_reducible refine (HIF.out _ HON5.out HJ5.out HB5f.out).mono ?_; rintro e W1 ⟨rfl, ho1, hj1, hb1⟩; have HO1 := hide ho1; have HJ1 := hide hj1; have HB1 := hide hb1; clear ho1 hj1 hb1))
        go_quiet (fail)
        have HO2 := hide (HO1.out.drewN nq)
        have HJ2 := hide (hJ _ _ _ HJ1.out ((Only.refl [A] W1).drewN nq))
        have HB2 := hide (show Blk (W1.drewN nq) A 5 (bytC n π) from HB1.out.drewN nq)
        generalize W1.drewN nq = W2 at *
        have hqn := HPN.out
        have a0 := HB2.out.cell q
        rw [HCG.out] at a0
        have hfa := HB2.out.frozen q
        have HO3 := hide (HO2.out.setCell (p := ⟨A, q, none⟩) (.inr HAL.out) (.int .u8 ((c + y : Nat) : Int)))
        have HJ3 := hide (hJ _ _ _ HJ2.out ((Only.refl [A] W2).setCell (p := ⟨A, q, none⟩) (.inl (by simp)) (.int .u8 ((c + y : Nat) : Int))))
        have HB3 := hide (show Blk (W2.setCell ⟨A, q, none⟩ (.int .u8 ((c + y : Nat) : Int))) A 5 (bytC n (true :: π)) from by rw [← HTR.out]; exact HB2.out.set_ q _)
        have hcy : ((c + y : Nat) : Int) = (c : Int) + (y : Int) := by omega
        rw [hcy] at hor han HO3 HJ3 HB3
        clear hcy
        go_upto_region 7 with (fail)
        generalize W2.setCell ⟨A, q, none⟩ (.int .u8 ((c : Int) + (y : Int))) = W3 at *
        clear a0 hfa k1
        have k1 := (HT0.out.only HO3.out (by simp)).at_ HC0.out |>.2.2 true
        simp only [Bool.toNat_true] at k1
        rw [← Nat.add_assoc] at k1
        go_upto_region 8 with (first
          | (go_at_call 35; with_reducible refine (HIT.out _ HO3.out HJ3.out HB3.out).mono ?_; rintro e W4 ⟨rfl, ho1, hj1, hb1⟩; have HO4 := hide ho1; have HJ4 := hide hj1; have HB4 := hide hb1; clear ho1 hj1 hb1))
        have b0 := HB4.out.cell q
        have hq3 : (bytC n (true :: π))[q]? = some (.int .u8 ((c : Int) + (y : Int))) := by rw [HTR3.out]
        rw [hq3] at b0
        have hfb := HB4.out.frozen q
        clear hq3
        go_wp2_with fail
        go_end0
        exact ⟨rfl, HO4.out.setCell (p := ⟨A, q, none⟩) (.inr HAL.out) _, hJ _ _ _ HJ4.out ((Only.refl [A] W4).setCell (p := ⟨A, q, none⟩) (.inl (by simp)) _), by rw [← HBK2.out]; exact HB4.out.set_ q _⟩
      | false =>
        rw [hth] at d1
        have HNV := hide (show l ++ dfsL (th s) (ow s) n (k + 1) π = l ++ dfsL (th s) (ow s) n k (false :: π) ++ dfsL (th s) (ow s) n k (true :: π) by rw [dfsL, nodeV, hth, if_neg (by decide), List.nil_append, List.append_assoc])
        rw [HNV.out]
        rw [dfsL, nodeV, hth, if_neg (by decide), List.nil_append, List.length_append] at hlen
        obtain ⟨L, hL⟩ : ∃ L, L = π.length := ⟨_, rfl⟩
        have hpn : L / 8 < n := by omega
        have hne : ((L : Int) == 8 * (n : Int)) = false := by rw [beq_eq_false_iff_ne]; omega
        have HIF := hide (ih (false :: π) l W (by rw [List.length_cons]; omega) (by omega) hon hj hb)
        rw [List.length_cons, ← hL, show ((L + 1 : Nat) : Int) = (L : Int) + 1 from by omega] at HIF
        have HIT := hide (fun W1 (h1 : Only [] w0 W1) (h2 : J (l ++ dfsL (th s) (ow s) n k (false :: π)) W1) (h3 : Blk W1 A 5 (bytC n (true :: π))) => ih (true :: π) (l ++ dfsL (th s) (ow s) n k (false :: π)) W1 (by rw [List.length_cons]; omega) (by rw [List.length_append]; omega) h1 h2 h3)
        rw [List.length_cons, ← hL, show ((L + 1 : Nat) : Int) = (L : Int) + 1 from by omega] at HIT
        unfold WalkPost_of at HIF HIT
        have HTR := hide (bytC_true n π (by rw [← hL]; exact hpn))
        have HBK := hide (bytC_back n π (by rw [← hL]; exact hpn))
        rw [← hL] at HTR HBK
        have hmod := unP_mod n π (L / 8) hpn
        rw [← hL, (room_at rfl).1, show 2 * 2 ^ (7 - L % 8) = 2 ^ (7 - L % 8 + 1) by rw [Nat.pow_succ]; omega] at hmod
        have hcg := bytC_get (n := n) (π := π) hpn
        obtain ⟨c, hcc⟩ : ∃ c, c = ((unP n π).getD (L / 8) 0).toNat := ⟨_, rfl⟩
        have hc256 : c < 256 := by rw [hcc]; exact UInt8.toNat_lt _
        rw [← hcc] at HTR HBK hmod hcg
        obtain ⟨hor, han⟩ := u8_or_nat c (7 - L % 8) hc256 (by omega) hmod
        have HCG := hide hcg
        clear hcc hcg hmod
        rw [← hL]
        have HPN := hide hpn
        have HLQ := hide hL
        have hd : IntKind.i64.wrap ((L : Int) / 8) = ((L / 8 : Nat) : Int) := by rw [IntWalk.i64_in _ (by omega)]; omega
        have hmo : (L : Int).tmod 8 = ((L % 8 : Nat) : Int) := by rw [Int.tmod_eq_emod_of_nonneg (by omega)]; omega
        obtain ⟨q, hq⟩ : ∃ q, q = L / 8 := ⟨_, rfl⟩
        obtain ⟨r, hr⟩ : ∃ r, r = L % 8 := ⟨_, rfl⟩
        obtain ⟨s', hs'⟩ : ∃ s', s' = 7 - r := ⟨_, rfl⟩
        have hs7 : IntKind.i64.wrap (7 - (r : Int)) = (s' : Int) := by rw [IntWalk.i64_in _ (by omega)]; omega
        rw [← hq] at hd
        rw [← hr] at hmo
        have HQ := hide hq
        have HR := hide hr
        have HS' := hide hs'
        rw [← hr, ← hs'] at hor han HTR
        rw [← hq] at HTR HBK HCG HPN
        have HBK2 := HBK
        have HAL := hide (show w0.heap.size ≤ A from hA)
        obtain ⟨y, hy⟩ : ∃ y, y = 2 ^ s' := ⟨_, rfl⟩
        have hw8 : IntKind.u8.wrap ((2 : Int) ^ s') = (y : Int) := by
          have h3 : ((2 ^ s' : Nat) : Int) = (2 : Int) ^ s' := by rw [Int.natCast_pow]; rfl
          have h4 : 2 ^ s' ≤ 2 ^ 7 := Nat.pow_le_pow_right (by decide) (by omega)
          rw [← h3, ← hy, IntKind.wrap_u8]
          omega
        rw [← hy] at hor han HTR
        have HTR3 := hide (show (bytC n (true :: π))[q]? = some (.int .u8 ((c : Int) + (y : Int))) from by rw [← HTR.out, Array.getElem?_setIfInBounds_self_of_lt (by rw [bytC_size]; exact HPN.out)]; congr 2)
        have hy128 : y ≤ 128 := by rw [hy]; exact Nat.pow_le_pow_right (by decide) (show s' ≤ 7 by omega)
        have hs8 : s' ≤ 7 := by omega
        clear hq hr hs' hL hlen hk hon hj hb hth hkid ih hy
        go_enter Try.func35, Try.ntmps35
        go_upto_region 5 with (first
          | (go_at_call 35; with_reducible refine HIF.out.mono ?_; rintro e W1 ⟨rfl, ho1, hj1, hb1⟩; have HO1 := hide ho1; have HJ1 := hide hj1; have HB1 := hide hb1; clear ho1 hj1 hb1))
        go_quiet (fail)
        have HO2 := hide (HO1.out.drewN nq)
        have HJ2 := hide (hJ _ _ _ HJ1.out ((Only.refl [A] W1).drewN nq))
        have HB2 := hide (show Blk (W1.drewN nq) A 5 (bytC n π) from HB1.out.drewN nq)
        generalize W1.drewN nq = W2 at *
        have hqn := HPN.out
        have a0 := HB2.out.cell q
        rw [HCG.out] at a0
        have hfa := HB2.out.frozen q
        have HO3 := hide (HO2.out.setCell (p := ⟨A, q, none⟩) (.inr HAL.out) (.int .u8 ((c + y : Nat) : Int)))
        have HJ3 := hide (hJ _ _ _ HJ2.out ((Only.refl [A] W2).setCell (p := ⟨A, q, none⟩) (.inl (by simp)) (.int .u8 ((c + y : Nat) : Int))))
        have HB3 := hide (show Blk (W2.setCell ⟨A, q, none⟩ (.int .u8 ((c + y : Nat) : Int))) A 5 (bytC n (true :: π)) from by rw [← HTR.out]; exact HB2.out.set_ q _)
        have hcy : ((c + y : Nat) : Int) = (c : Int) + (y : Int) := by omega
        rw [hcy] at hor han HO3 HJ3 HB3
        clear hcy
        go_upto_region 7 with (fail)
        generalize W2.setCell ⟨A, q, none⟩ (.int .u8 ((c : Int) + (y : Int))) = W3 at *
        clear a0 hfa k1
        have k1 := (HT0.out.only HO3.out (by simp)).at_ HC0.out |>.2.2 true
        simp only [Bool.toNat_true] at k1
        rw [← Nat.add_assoc] at k1
        go_upto_region 8 with (first
          | (go_at_call 35; with_reducible refine (HIT.out _ HO3.out HJ3.out HB3.out).mono ?_; rintro e W4 ⟨rfl, ho1, hj1, hb1⟩; have HO4 := hide ho1; have HJ4 := hide hj1; have HB4 := hide hb1; clear ho1 hj1 hb1))
        have b0 := HB4.out.cell q
        have hq3 : (bytC n (true :: π))[q]? = some (.int .u8 ((c : Int) + (y : Int))) := by rw [HTR3.out]
        rw [hq3] at b0
        have hfb := HB4.out.frozen q
        clear hq3
        go_wp2_with fail
        go_end0
        exact ⟨rfl, HO4.out.setCell (p := ⟨A, q, none⟩) (.inr HAL.out) _, hJ _ _ _ HJ4.out ((Only.refl [A] W4).setCell (p := ⟨A, q, none⟩) (.inl (by simp)) _), by rw [← HBK2.out]; exact HB4.out.set_ q _⟩
end
end
end Go.Proofs.Ytokaobilphfdoaa

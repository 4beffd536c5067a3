/-
  Walks and plain words (texts Ro10). No condition beyond those that each theorem states.
-/
import Derived.Test.YteoifokmbkpbnaaQ11
namespace Go.Proofs.Yteoifokmbkpbnaa
section
open Go.RowKit Go.Deep

def PlanPost (L : List Ac) (w : World) (e : Ending) (w' : World) : Prop := ∃ v, e = .returned (.tuple #[v, .int .i64 0]) ∧ RdS 5 acC w' [] v L ∧ Only [] w w'
def NoPost (c : Int) (w : World) (e : Ending) (w' : World) : Prop := e = .returned (.tuple #[.slice none 0 0, .int .i64 c]) ∧ Only [] w w'
theorem info_lch : (Try.prog.info? 110).map (fun i => (i.zero, i.size, i.bytes)) = some (some (.slice none 0 0), 1, 24) := by kernel_rfl
set_option maxRecDepth 100000 in
set_option maxHeartbeats 3200000 in
theorem plan_bad (w : World) (N M : List Nat) (mv rv : Value) (m : List (Int × Int)) (rs : List Rt) (U : Int) (hm : RdS 2 ptc w N mv m) (hml : m.length ≤ 1000) (hmf : ∀ p ∈ m, Fit p) (hr : RdR w M rv rs) (hrl : rs.length ≤ 1000) (hll : ∀ r ∈ rs, r.2.2.length ≤ 1000) (hf : ∀ r ∈ rs, FitR r) (hj : jrV m rs = false) :
    Calls Try.prog 22 #[.agg #[mv, rv], .int .i64 U] w (NoPost 3 w) := by
  have HJR := hide (show ∀ W, Only [] w W → _ from fun W ho => journey_right W N M mv rv m rs (hm.only ho (by simp)) hml hmf (hr.only ho (by simp)) hrl hll hf)
  rw [hj] at HJR
  obtain ⟨Am, cm, rfl, _, _⟩ := hm.form
  obtain ⟨A, cap, rfl, hcap, hmx⟩ := hr.1.form
  unfold maxLen at hmx
  clear hm hmf hr hll hf hj
  generalize m.length = nm at *
  obtain ⟨n, hn⟩ : ∃ n, n = rs.length := ⟨_, rfl⟩
  have HN := hide hn
  rw [← hn] at HJR hcap hrl ⊢
  have HB := hide (Blk.new w 49 #[.slice Am nm cm, .slice A n cap])
  have HO := hide ((Only.refl [] w).alloc (.cells #[.slice Am nm cm, .slice A n cap] 49))
  have k0 := HB.out.cell 0
  have k1 := HB.out.cell 1
  simp at k0 k1
  clear hn
  go_enter Try.func22, Try.ntmps22
  go_wp2_with (go_at_call 25; refine (HJR.out _ HO.out).mono ?_; rintro e w1 ⟨rfl, ho⟩; replace HO := hide (HO.out.trans ho); replace HB := hide (HB.out.only ho (by simp)); clear k0 k1; have k0 := HB.out.cell 0; have k1 := HB.out.cell 1; simp at k0 k1; clear ho)
  go_ret2
  exact ⟨rfl, HO.out⟩
set_option maxRecDepth 100000 in
set_option maxHeartbeats 3200000 in
theorem plan_arg (w : World) (N M : List Nat) (mv rv : Value) (m : List (Int × Int)) (rs : List Rt) (U : Int) (hm : RdS 2 ptc w N mv m) (hml : m.length ≤ 1000) (hmf : ∀ p ∈ m, Fit p) (hr : RdR w M rv rs) (hrl : rs.length ≤ 1000) (hll : ∀ r ∈ rs, r.2.2.length ≤ 1000) (hf : ∀ r ∈ rs, FitR r) (hj : jrV m rs = true) (hU : U < 0 ∨ 1000 < U) :
    Calls Try.prog 22 #[.agg #[mv, rv], .int .i64 U] w (NoPost 2 w) := by
  have HJR := hide (show ∀ W, Only [] w W → _ from fun W ho => journey_right W N M mv rv m rs (hm.only ho (by simp)) hml hmf (hr.only ho (by simp)) hrl hll hf)
  rw [hj] at HJR
  obtain ⟨Am, cm, rfl, _, _⟩ := hm.form
  obtain ⟨A, cap, rfl, hcap, hmx⟩ := hr.1.form
  unfold maxLen at hmx
  clear hm hmf hr hll hf hj
  generalize m.length = nm at *
  obtain ⟨n, hn⟩ : ∃ n, n = rs.length := ⟨_, rfl⟩
  have HN := hide hn
  rw [← hn] at HJR hcap hrl ⊢
  have HB := hide (Blk.new w 49 #[.slice Am nm cm, .slice A n cap])
  have HO := hide ((Only.refl [] w).alloc (.cells #[.slice Am nm cm, .slice A n cap] 49))
  have k0 := HB.out.cell 0
  have k1 := HB.out.cell 1
  simp at k0 k1
  clear hn
  by_cases h0 : U < 0
  · go_enter Try.func22, Try.ntmps22
    go_wp2_with (go_at_call 25; refine (HJR.out _ HO.out).mono ?_; rintro e w1 ⟨rfl, ho⟩; replace HO := hide (HO.out.trans ho); replace HB := hide (HB.out.only ho (by simp)); clear k0 k1; have k0 := HB.out.cell 0; have k1 := HB.out.cell 1; simp at k0 k1; clear ho)
    go_ret2
    exact ⟨rfl, HO.out⟩
  · have h1 : 1000 < U := by omega
    clear hU
    go_enter Try.func22, Try.ntmps22
    go_wp2_with (go_at_call 25; refine (HJR.out _ HO.out).mono ?_; rintro e w1 ⟨rfl, ho⟩; replace HO := hide (HO.out.trans ho); replace HB := hide (HB.out.only ho (by simp)); clear k0 k1; have k0 := HB.out.cell 0; have k1 := HB.out.cell 1; simp at k0 k1; clear ho)
    go_ret2
    exact ⟨rfl, HO.out⟩
theorem ownA_set {e : TypeId} {base : Nat} {v : Value} {L : List Ac} {w : World} (h : OwnA e base v L w) {b i : Nat} {u : Value} (hp : b < base) : OwnA e base v L (w.setCell ⟨b, i, none⟩ u) :=
  own_only h ((Only.refl [b] w).setCell (p := ⟨b, i, none⟩) (.inl (by simp)) u) (by simpa using hp)
theorem getD_set {α : Type} (vs : List α) (x d : α) {k j : Nat} (hj : j < vs.length) : (vs.set k x).getD j d = if j = k then x else vs.getD j d := by
  rw [List.getD_eq_getElem?_getD, List.getD_eq_getElem?_getD, List.getElem?_set]
  by_cases h : j = k
  · subst h; rw [if_pos rfl, if_pos rfl, if_pos hj]; rfl
  · rw [if_neg (fun e => h e.symm), if_neg h]
set_option maxRecDepth 100000 in
set_option maxHeartbeats 12800000 in
theorem plan_ok (w : World) (N M : List Nat) (mv rv : Value) (m : List (Int × Int)) (rs : List Rt) (U : Nat) (hm : RdS 2 ptc w N mv m) (hml : m.length ≤ 1000) (hmf : ∀ p ∈ m, Fit p) (hr : RdR w M rv rs) (hrl : rs.length ≤ 1000) (hll : ∀ r ∈ rs, r.2.2.length ≤ 1000) (hf : ∀ r ∈ rs, FitR r) (hj : jrV m rs = true) (hU : U ≤ 1000) :
    Calls Try.prog 22 #[.agg #[mv, rv], .int .i64 U] w (PlanPost (planK m rs (U + 1)) w) := by
  have HJR := hide (show ∀ W, Only [] w W → _ from fun W ho => journey_right W N M mv rv m rs (hm.only ho (by simp)) hml hmf (hr.only ho (by simp)) hrl hll hf)
  rw [hj] at HJR
  have hjj := hj
  unfold jrV at hjj
  rw [Bool.and_eq_true, Bool.and_eq_true, List.all_eq_true] at hjj
  obtain ⟨hmv, hd, hrs⟩ := hjj
  have hd := of_decide_eq_true hd
  have HN8 := hide hd.2
  have hmm := masts_mem hmv
  have HNM := hide (show ∀ k t, k < rs.length → nearAt m rs k t ≤ 63 from fun k t hk => by
    have h : nearAt m rs k t < m.length := nb_lt _ _ _ hmm.2.1
    have := hmm.2.2
    omega)
  have HCH := hide (show ∀ W r, Only [] w W → r ∈ rs → Calls Try.prog 44 #[mv, .agg #[.int .i64 r.1.1, .int .i64 r.1.2, r.2.1], .int .i64 U] W (ChPostN (chs m r.1 r.2.2 U) W) from fun W r ho hmem => by
    have h := changes_okN W N M mv r.2.1 m r.1 r.2.2 U (hm.only ho (by simp)) ((hr.2 r hmem).only ho (by simp)) hml (hll r hmem) hmf (hf r hmem).1 (hf r hmem).2 hmv (hrs r hmem) (by omega)
    rwa [chs_min (routes_pos (hrs r hmem)).2.2 U] at h)
  obtain ⟨i0, hi, hz0, hz1, hz2⟩ := info_parts info_actW
  obtain ⟨i1, hi1, hx0, hx1, hx2⟩ := info_parts info_lch
  obtain ⟨Am, cm, rfl, _, _⟩ := hm.form
  obtain ⟨A, cap, rfl, hcap, hmx⟩ := hr.1.form
  unfold maxLen at hmx
  generalize m.length = nm at *
  obtain ⟨n, hn⟩ : ∃ n, n = rs.length := ⟨_, rfl⟩
  have HN := hide hn
  rw [← hn] at HNM HJR hcap hrl ⊢
  have HB := hide (Blk.new w 49 #[.slice Am nm cm, .slice A n cap])
  have HO := hide ((Only.refl [] w).alloc (.cells #[.slice Am nm cm, .slice A n cap] 49))
  have k0 := HB.out.cell 0
  have k1 := HB.out.cell 1
  simp at k0 k1
  have HR := hide hr
  rw [← hn] at HR
  have HU := hide hU
  have hUi : ¬ (U : Int) < 0 := by omega
  have hUj : ¬ (1000 : Int) < U := by omega
  have hn8 := HN8.out
  rw [← HN.out] at hn8
  clear hm hmf hr hll hf hj hmv hrs hmm hn
  clear hd
  clear hd
  have hmk : ∀ W : World, (Instr.makeSlice 109 (.int .i64 (n : Nat)) (.int .i64 (n : Nat))).run Try.prog W = .ok (.slice (some ⟨W.heap.size, 0, none⟩) n n) (W.alloc (.cells (Array.replicate n (.slice none 0 0)) 110)) := fun W => run_make_row W 109 110 i1 _ Try.underlying109 hi1 hx0 hx1 rfl .i64 .i64 n n (Nat.le_refl _) (by rw [hx2]; omega) (by omega)
  go_enter Try.func22, Try.ntmps22
  go_upto_region 6 with (go_at_call 25; refine (HJR.out _ HO.out).mono ?_; rintro e w1 ⟨rfl, ho⟩; replace HO := hide (HO.out.trans ho); replace HB := hide (HB.out.only ho (by simp)); clear k0 k1; have k0 := HB.out.cell 0; have k1 := HB.out.cell 1; simp at k0 k1; clear ho)
  have HBJ := hide (show w.heap.size < w1.heap.size from HB.out.lt)
  have HL := hide (Blk.new w1 110 (Array.replicate n (.slice none 0 0)))
  replace HB := hide (HB.out.alloc (.cells (Array.replicate n (.slice none 0 0)) 110))
  replace HO := hide (HO.out.alloc (.cells (Array.replicate n (.slice none 0 0)) 110))
  obtain ⟨B0, hB0⟩ : ∃ B, B = w1.heap.size := ⟨_, rfl⟩
  rw [← hB0] at HL HBJ ⊢
  have HBW := hide (show w.heap.size ≤ B0 from Nat.le_of_lt HBJ.out)
  clear hB0
  generalize hwM : (w1.alloc (.cells (Array.replicate n (.slice none 0 0)) 110)) = wM at *
  clear hwM k0 k1 hmk
  have k0 := HB.out.cell 0
  have k1 := HB.out.cell 1
  simp at k0 k1
  go_wp2_with fail
  clear k0 k1
  go_loopw [31] (fun i wr => ∃ (k : Nat) (vs : List Value), vs.length = k ∧ k ≤ n ∧ i = .int .i64 k ∧ Hid (Blk wr B0 110 (vs ++ List.replicate (n - k) (Value.slice none 0 0)).toArray) ∧ Hid (∀ j, j < k → RdS 2 ptc wr [B0] (vs.getD j (.slice none 0 0)) (leftQ m rs U 0 j)) ∧ Hid (Only [B0] wM wr)) (fun i _ => n - (intOf i).toNat)
  case atStart => exact ⟨0, [], rfl, Nat.zero_le _, rfl, hide (by simpa using HL.out), hide (fun j hj => absurd hj (Nat.not_lt_zero j)), hide (Only.refl _ _)⟩
  case round =>
    obtain ⟨k, vs, hvk, hk, rfl, hb, hrd, ho⟩ := hrel
    by_cases hlt : k < n
    · have hlt' : (k : Int) < n := by omega
      have HOw := hide (only_in7 HO.out ho.out HBW.out)
      obtain ⟨g, o, rfl, _, _⟩ := HR.out.1.addr (by rw [← HN.out]; omega)
      have hce := rts_cell (HR.out.1.only HOw.out (by simp)) (show k < rs.length by rw [← HN.out]; exact hlt)
      obtain ⟨c1, c2, c3⟩ := hce
      have HMEM := hide (getD_mem rs zr (show k < rs.length by rw [← HN.out]; exact hlt))
      have HFM := hide ((HR.out.2 _ HMEM.out).form)
      have HLQ := hide (left_start m rs U k)
      generalize rs.getD k zr = p at *
      obtain ⟨⟨s1, s2⟩, lv, l⟩ := p
      obtain ⟨Al, cl, hlv, _, _⟩ := HFM.out
      simp only at hlv c1 c2 c3
      subst hlv
      have HC := hide (fun W (h : Only [] w W) => HCH.out W ((s1, s2), .slice Al l.length cl, l) h HMEM.out)
      unfold ChPostN at HC
      simp only at HC HLQ
      generalize l.length = ql at *
      clear HFM
      go_upto_region 9 with fail
      have HRB := hide (Blk.new wr 98 #[.int .i64 s1, .int .i64 s2, .slice Al ql cl])
      have HB1 := hide ((HB.out.only ho.out (by simp; have := HBJ.out; omega)).alloc (.cells #[.int .i64 s1, .int .i64 s2, .slice Al ql cl] 98))
      have HL1 := hide (hb.out.alloc (.cells #[.int .i64 s1, .int .i64 s2, .slice Al ql cl] 98))
      have HOA := hide (HOw.out.alloc (.cells #[.int .i64 s1, .int .i64 s2, .slice Al ql cl] 98))
      have HOM := hide ((Only.refl [] wr).alloc (.cells #[.int .i64 s1, .int .i64 s2, .slice Al ql cl] 98))
      obtain ⟨X, hX⟩ : ∃ X, X = wr.heap.size := ⟨_, rfl⟩
      rw [← hX] at HRB ⊢
      clear hX c1 c2 c3
      generalize (wr.alloc (.cells #[.int .i64 s1, .int .i64 s2, .slice Al ql cl] 98)) = v9 at *
      have r0 := HRB.out.cell 0
      have r1 := HRB.out.cell 1
      have r2 := HRB.out.cell 2
      have k0 := HB1.out.cell 0
      simp at r0 r1 r2 k0
      go_wp2_with (go_at_call 44; refine (HC.out _ HOA.out).mono ?_; rintro e w2 ⟨v2, rfl, hn2, ho2⟩; have HQ := hide (hn2 [B0] (by simp; exact HL1.out.lt)); obtain ⟨Av, cv, rfl, _, _⟩ := HQ.out.form; have HL2 := hide (HL1.out.only ho2 (by simp)); have hck := HL2.out.cell k; rw [List.getElem?_toArray, List.getElem?_append_right (by omega), hvk, Nat.sub_self, List.getElem?_replicate, if_pos (by omega)] at hck; have rf := HL2.out.frozen; have HOM2 := hide (HOM.out.trans ho2); clear hn2 ho2)
      go_roundw
      case rel => exact ⟨k + 1, vs ++ [.slice Av (chs m (s1, s2) l U).length cv], by rw [List.length_append, hvk]; rfl, by omega, by go_num, hide (by rw [← set_mid hvk hlt]; exact HL2.out.set_ k _), hide (fun j hj => by
        have hsc : Only [B0] w2 (w2.setCell ⟨B0, k, none⟩ (.slice Av (chs m (s1, s2) l U).length cv)) := (Only.refl _ _).setCell (p := ⟨B0, k, none⟩) (.inl (by simp)) _
        rcases Nat.lt_or_ge j k with h | h
        · rw [List.getD_eq_getElem?_getD, List.getElem?_append_left (by omega), ← List.getD_eq_getElem?_getD]
          exact ((hrd.out j h).only HOM2.out (by simp)).only hsc (by simp)
        · obtain rfl : j = k := by omega
          rw [List.getD_eq_getElem?_getD, List.getElem?_append_right (by omega), hvk, Nat.sub_self, HLQ.out]
          exact HQ.out.only hsc (by simp)), hide ((ho.out.trans (HOM2.out.mono (S' := [B0]) (by simp))).setCell (p := ⟨B0, k, none⟩) (.inl (by simp)) _)⟩
      case measure => simp [intOf] <;> omega
    · have hlt' : ¬ (k : Int) < n := by omega
      obtain rfl : n = k := by omega
      have HLS := hide (show Blk wr B0 110 vs.toArray from by have h := hb.out; rwa [Nat.sub_self, List.replicate_zero, List.append_nil] at h)
      have HRS := hrd
      have HOB := hide (only_in7 HO.out ho.out HBW.out)
      clear hb hrd ho hk
      obtain ⟨wB, hwB⟩ : ∃ x, x = wr := ⟨_, rfl⟩
      subst hwB
      have HBB := hide (show B0 < wB.heap.size from HLS.out.lt)
      go_wp2_with fail
      go_loopw [12, 11] (fun s v wr => ∃ (t : Nat) (vs : List Value), t ≤ U + 1 ∧ vs.length = n ∧ s = .int .i64 t ∧ Hid (Blk wr B0 110 vs.toArray) ∧ Hid (∀ j, j < n → RdS 2 ptc wB [B0] (vs.getD j (.slice none 0 0)) (leftQ m rs U t j)) ∧ Hid (OwnA 66 wB.heap.size v (planK m rs t) wr) ∧ Hid (Only [B0] wB wr)) (fun s _ _ => U + 1 - (intOf s).toNat)
      case atStart => exact ⟨0, vs, Nat.zero_le _, hvk, rfl, HLS, HRS, hide (ownA_nil _ _ _), hide (Only.refl _ _)⟩
      case round =>
        clear HLS HRS hvk vs
        obtain ⟨t, vs, ht, hvs, rfl, hb, hrd, hout, ho⟩ := hrel
        by_cases hlu : t ≤ U
        · have hlu' : (t : Int) ≤ U := by omega
          by_cases h0 : t = 0
          · subst h0
            have HST := hide (show OwnA 66 wB.heap.size _ (partV m rs 0 0) wr from by rw [part_start0]; exact hout.out)
            have HSO := ho
            have HLS := hb
            have HRS := hrd
            clear hout ho hb hrd
            simp only [show ((0 : Nat) : Int) = 0 from rfl] at hlu' ⊢
            go_wp2_with fail
            go_loopw [65, 11] (fun i v wr => ∃ (k : Nat) (vs : List Value), k ≤ n ∧ vs.length = n ∧ i = .int .i64 k ∧ Hid (Blk wr B0 110 vs.toArray) ∧ Hid (∀ j, j < n → RdS 2 ptc wB [B0] (vs.getD j (.slice none 0 0)) (leftQ m rs U (if j < k then 0 + 1 else 0) j)) ∧ Hid (OwnA 66 wB.heap.size v (partV m rs 0 k) wr) ∧ Hid (Only [B0] wB wr)) (fun i _ _ => n - (intOf i).toNat)
            case atStart => exact ⟨0, vs, Nat.zero_le _, hvs, rfl, HLS, hide (fun j hj => by rw [if_neg (Nat.not_lt_zero j)]; exact HRS.out j hj), HST, HSO⟩
            case round =>
              clear hvs HLS HRS HST HSO vs
              obtain ⟨k, vs, hk, hvs, rfl, hb, hrd, how, ho⟩ := hrel
              by_cases hlt : k < n
              · have hlt' : (k : Int) < n := by omega
                have hpl := part_len m rs HN8.out 0 k
                obtain ⟨Av, cv, rfl, _, _⟩ := ownA_form how.out
                generalize hpn : (partV m rs 0 k).length = pn at *
                have HPN := hide hpn
                clear hpn
                have hown := how.out
                unfold OwnA at hown
                rw [HPN.out] at hown
                have HOWN := hide hown
                clear hown how
                have hq0 := hrd.out k hlt
                rw [if_neg (Nat.lt_irrefl k)] at hq0
                have hql := left_len m rs U 0 k
                have hck := hb.out.cell k
                rw [List.getElem?_toArray, get_lt vs (.slice none 0 0) (by omega)] at hck
                have HVK := hide (show ∀ x, (vs.set k x).length = n from fun x => by rw [List.length_set]; exact hvs)
                have HGS := hide (show ∀ x j, j < n → (vs.set k x).getD j (.slice none 0 0) = if j = k then x else vs.getD j (.slice none 0 0) from fun x j hj => getD_set vs x _ (by omega))
                generalize vs.getD k (.slice none 0 0) = v0 at *
                obtain ⟨Aq, cq, rfl, _, hcq⟩ := hq0.form
                unfold maxLen at hcq
                have HQ0 := hide hq0
                clear hq0
                cases hch : chgB m rs 0 k with
                | false =>
                  obtain ⟨hn1, hn2⟩ := left_no (U := U) (by have := hlu; omega) hch
                  have HPC := hide (part_same hch)
                  have HN1 := hide hn1
                  have HN2 := hide hn2
                  clear hch hn1 hn2
                  have HREL := hide (show ∀ j, j < n → RdS 2 ptc wB [B0] (vs.getD j (.slice none 0 0)) (leftQ m rs U (if j < k + 1 then 0 + 1 else 0) j) from fun j hj => by
                    by_cases hjk : j = k
                    · subst hjk
                      rw [if_pos (Nat.lt_succ_self j)]
                      have h := hrd.out j hj
                      rw [if_neg (Nat.lt_irrefl j)] at h
                      rw [HN1.out]
                      exact h
                    · have h := hrd.out j hj
                      by_cases h1 : j < k
                      · rw [if_pos (by omega)]; rwa [if_pos h1] at h
                      · rw [if_neg (by omega)]; rwa [if_neg h1] at h)
                  cases hq : leftQ m rs U 0 k with
                  | nil =>
                    have HQN := hide (show (leftQ m rs U 0 k).length = 0 by rw [hq]; rfl)
                    rw [HQN.out] at hck HQ0 hql
                    clear hq
                    go_wp2_with fail
                    go_roundw
                    case rel => exact ⟨k + 1, vs, by omega, hvs, by go_num, hb, HREL, hide (by unfold OwnA; rw [HPC.out, HPN.out]; exact HOWN.out), ho⟩
                    case measure => simp [intOf] <;> omega
                  | cons x rest =>
                    obtain ⟨x1, x2⟩ := x
                    have HQL := hide (show (leftQ m rs U 0 k).length = rest.length + 1 by rw [hq]; rfl)
                    have hx := HN2.out (x1, x2) (by rw [hq]; exact List.mem_cons_self)
                    simp only at hx
                    rw [HQL.out] at hck hql
                    rw [hq] at HQ0
                    rw [List.length_cons] at HQ0
                    obtain ⟨g, o, rfl, _, _⟩ := HQ0.out.addr (by simp)
                    have d1 := (HQ0.out.only ho.out (by simp)).cell (i := 0) (p := (x1, x2)) rfl (j := 0) (u := .int .i64 x1) rfl
                    simp at d1
                    have hne : (x1 == 0) = false := by rw [beq_eq_false_iff_ne]; omega
                    have hp0 : (0 : Int) < (rest.length : Int) + 1 := by omega
                    clear hq hx
                    generalize rest.length = rl at *
                    go_wp2_with fail
                    go_roundw
                    case rel => exact ⟨k + 1, vs, by omega, hvs, by go_num, hb, HREL, hide (by unfold OwnA; rw [HPC.out, HPN.out]; exact HOWN.out), ho⟩
                    case measure => simp [intOf] <;> omega
                | true =>
                  have hq := left_yes (U := U) (by have := hlu; omega) hch
                  rw [show ((0 : Nat) : Int) = 0 from by omega] at hq
                  have HPC := hide (part_chg hch)
                  unfold moveV at HPC
                  clear hch
                  have hy63 : nearAt m rs k 0 ≤ 63 := HNM.out k 0 hlt
                  have HAD := hide (fun W => address_any W k (nearAt m rs k 0) (by have := HN8.out; have := HN.out; omega) hy63)
                  unfold NumPost at HAD
                  have HQL := hide (show (leftQ m rs U 0 k).length = (leftQ m rs U (0 + 1) k).length + 1 by rw [hq]; rfl)
                  rw [HQL.out] at hck hql
                  rw [hq, List.length_cons] at HQ0
                  clear hq
                  generalize nearAt m rs k 0 = y at *
                  obtain ⟨rest, hrest⟩ : ∃ r, r = leftQ m rs U (0 + 1) k := ⟨_, rfl⟩
                  rw [← hrest] at hck hql HQ0 HQL
                  obtain ⟨g, o, rfl, _, _⟩ := HQ0.out.addr (by simp)
                  have HD := hide (show ∀ W, Only [B0] wB W → W.cell? ⟨g, o, none⟩ = some (.int .i64 0) ∧ W.cell? ⟨g, o + 1, none⟩ = some (.int .i64 (y : Nat)) from fun W h => ⟨(HQ0.out.only h (by simp)).cell (i := 0) (p := (0, ((y : Nat) : Int))) rfl (j := 0) (u := .int .i64 0) rfl, (HQ0.out.only h (by simp)).cell (i := 0) (p := (0, ((y : Nat) : Int))) rfl (j := 1) (u := .int .i64 (y : Nat)) rfl⟩)
                  obtain ⟨d1, d2⟩ := HD.out _ ho.out
                  have hp0 : (0 : Int) < (rest.length : Int) + 1 := by omega
                  have hrl0 : rest.length + 1 ≤ cq := by have := HQ0.out.form; obtain ⟨_, _, h1, h2, _⟩ := this; injection h1 with _ _ h3; subst h3; simpa using h2
                  generalize hrn : rest.length = rl at *
                  have HRN0 := hide hrn
                  clear hrn
                  go_upto_region 24 with fail
                  go_upto_region 25 with (first
                    | (go_at_call 45; refine (HAD.out _).mono ?_; rintro e w2 ⟨rfl, ho2⟩; have HO2 := hide ((ho.out.trans (ho2.mono (S' := [B0]) (by simp))).alloc (.cells #[.int .i64 6, .int .i64 (k : Nat), .int .i64 0, .int .i64 (8 * (y : Nat) + (k : Nat) + 1), .slice none 0 0] 66)); have HOW2 := hide (World.ownsRow.alloc (own_only HOWN.out ho2 (by simp)) (.cells #[.int .i64 6, .int .i64 (k : Nat), .int .i64 0, .int .i64 (8 * (y : Nat) + (k : Nat) + 1), .slice none 0 0] 66)); have HL2 := hide ((hb.out.only ho2 (by simp)).alloc (.cells #[.int .i64 6, .int .i64 (k : Nat), .int .i64 0, .int .i64 (8 * (y : Nat) + (k : Nat) + 1), .slice none 0 0] 66)); have HRN := hide (reads_new w2 66 (acC (6, (k : Int), 0, 8 * ((y : Nat) : Int) + k + 1)) (w2.heap.size + 1) 5 rfl (by omega)); clear ho2)
                    | (at_builtin; refine wpList_append_any _ rfl (.tmp 81) (.tmp 90) 56 rfl wB.heap.size 66 i0 (.agg #[.int .i64 0, .int .i64 0, .int .i64 0, .int .i64 0, .slice none 0 0]) 5 56 Try.underlying56 hi hz0 hz1 hz2 rfl (by decide) _ pn _ rfl HOW2.out (w2.heap.size + 1) (some ⟨w2.heap.size, 0, none⟩) 1 1 (acC (6, (k : Int), 0, 8 * ((y : Nat) : Int) + k + 1)) rfl HRN.out (by simp [acC, Value.oneCell']) (by unfold maxLen; omega) (by omega) HO2.out.size ?_; intro v1 w3 hown1 hg1 _; have HOW3 := hide (ownA_snoc (by rw [HPN.out]; exact hown1)); have HO3 := hide (HO2.out.grown hg1 (fun j hj => .inr (own_block_ge HOW2.out hj))); have HL3 := hide (HL2.out.grown hg1 (fun hj => by have := own_block_ge HOW2.out hj.symm; have := HBB.out; omega)); clear hown1 hg1))
                  have rf := HL3.out.frozen
                  have hck3 := HL3.out.cell k
                  rw [List.getElem?_toArray, List.getElem?_eq_getElem (by omega)] at hck3
                  have HTL := hide (show RdS 2 ptc wB [B0] (.slice (if cq = 1 then some ⟨g, o, none⟩ else some ⟨g, o + 2, none⟩) rl (cq - 1)) rest from rds_tail HQ0.out (fun hne => if_neg (fun h1 => hne (List.eq_nil_of_length_eq_zero (by have := HRN0.out; omega)))) (by omega) rfl)
                  rw [hrest] at HTL
                  go_wp2_with fail
                  go_roundw
                  case rel => exact ⟨k + 1, vs.set k (.slice (if cq = 1 then some ⟨g, o, none⟩ else some ⟨g, o + 2, none⟩) rl (cq - 1)), by omega, HVK.out _, by go_num, hide (by rw [← List.setIfInBounds_toArray]; exact HL3.out.set_ k _), hide (fun j hj => by
                    rw [HGS.out _ j hj]
                    by_cases hjk : j = k
                    · subst hjk
                      rw [if_pos rfl, if_pos (Nat.lt_succ_self j)]
                      exact HTL.out
                    · have h := hrd.out j hj
                      rw [if_neg hjk]
                      by_cases h1 : j < k
                      · rw [if_pos (by omega)]; rwa [if_pos h1] at h
                      · rw [if_neg (by omega)]; rwa [if_neg h1] at h), hide (by rw [HPC.out]; exact ownA_set HOW3.out HBB.out), hide (HO3.out.setCell (p := ⟨B0, k, none⟩) (.inl (by simp)) _)⟩
                  case measure => simp [intOf] <;> omega
              · have hlt' : ¬ (k : Int) < n := by omega
                obtain rfl : k = n := by omega
                go_wp2_with fail
                go_roundw
                case rel => exact ⟨0 + 1, vs, by omega, hvs, by go_num, hb, hide (fun j hj => by have h := hrd.out j hj; rwa [if_pos hj] at h), hide (by rw [← part_full, ← HN.out]; exact how.out), ho⟩
                case measure => simp [intOf] <;> omega
          · obtain ⟨t, rfl⟩ : ∃ u, t = u + 1 := ⟨t - 1, by omega⟩
            have h0' : (0 : Int) < (t : Int) + 1 := by omega
            clear h0
            have hpl0 := plan_len m rs HN8.out (t + 1)
            obtain ⟨Av, cv, rfl, _, _⟩ := ownA_form hout.out
            generalize hpn0 : (planK m rs (t + 1)).length = pn0 at *
            have hown := hout.out
            unfold OwnA at hown
            rw [hpn0] at hown
            have HPN := hide hpn0
            clear hpn0
            have HOW2 := hide (World.ownsRow.alloc hown (.cells #[.int .i64 5, .int .i64 0, .int .i64 1000, .int .i64 0, .slice none 0 0] 66))
            have HO2 := hide (ho.out.alloc (.cells #[.int .i64 5, .int .i64 0, .int .i64 1000, .int .i64 0, .slice none 0 0] 66))
            have HL2 := hide (hb.out.alloc (.cells #[.int .i64 5, .int .i64 0, .int .i64 1000, .int .i64 0, .slice none 0 0] 66))
            have HRN := hide (reads_new wr 66 (acC waitV) (wr.heap.size + 1) 5 rfl (by omega))
            clear hown hout ho hb
            go_wp2_with (at_builtin; refine wpList_append_any _ rfl (.tmp 59) (.tmp 61) 56 rfl wB.heap.size 66 i0 (.agg #[.int .i64 0, .int .i64 0, .int .i64 0, .int .i64 0, .slice none 0 0]) 5 56 Try.underlying56 hi hz0 hz1 hz2 rfl (by decide) _ pn0 _ rfl HOW2.out (wr.heap.size + 1) (some ⟨wr.heap.size, 0, none⟩) 1 1 (acC waitV) rfl HRN.out (by simp [acC, Value.oneCell']) (by unfold maxLen; omega) (by omega) HO2.out.size ?_; intro v1 w3 hown1 hg1 _; have HOW3 := hide (ownA_snoc (by rw [HPN.out]; exact hown1)); have HO3 := hide (HO2.out.grown hg1 (fun j hj => .inr (own_block_ge HOW2.out hj))); have HL3 := hide (HL2.out.grown hg1 (fun hj => by have := own_block_ge HOW2.out hj.symm; have := HBB.out; omega)); clear hown1 hg1)
            have HST := hide (show OwnA 66 wB.heap.size v1 (partV m rs (t + 1) 0) w3 from by rw [part_start m rs (t + 1) (by omega)]; exact HOW3.out)
            have HSO := HO3
            have HLS := HL3
            have HRS := hrd
            clear HOW3 HO3 HRN HO2 HOW2 HL2 HL3 HPN hpl0 hrd
            go_loopw [65, 11] (fun i v wr => ∃ (k : Nat) (vs : List Value), k ≤ n ∧ vs.length = n ∧ i = .int .i64 k ∧ Hid (Blk wr B0 110 vs.toArray) ∧ Hid (∀ j, j < n → RdS 2 ptc wB [B0] (vs.getD j (.slice none 0 0)) (leftQ m rs U (if j < k then (t + 1) + 1 else (t + 1)) j)) ∧ Hid (OwnA 66 wB.heap.size v (partV m rs (t + 1) k) wr) ∧ Hid (Only [B0] wB wr)) (fun i _ _ => n - (intOf i).toNat)
            case atStart => exact ⟨0, vs, Nat.zero_le _, hvs, rfl, HLS, hide (fun j hj => by rw [if_neg (Nat.not_lt_zero j)]; exact HRS.out j hj), HST, HSO⟩
            case round =>
              clear hvs HLS HRS HST HSO vs
              obtain ⟨k, vs, hk, hvs, rfl, hb, hrd, how, ho⟩ := hrel
              by_cases hlt : k < n
              · have hlt' : (k : Int) < n := by omega
                have hpl := part_len m rs HN8.out (t + 1) k
                obtain ⟨Av, cv, rfl, _, _⟩ := ownA_form how.out
                generalize hpn : (partV m rs (t + 1) k).length = pn at *
                have HPN := hide hpn
                clear hpn
                have hown := how.out
                unfold OwnA at hown
                rw [HPN.out] at hown
                have HOWN := hide hown
                clear hown how
                have hq0 := hrd.out k hlt
                rw [if_neg (Nat.lt_irrefl k)] at hq0
                have hql := left_len m rs U (t + 1) k
                have hck := hb.out.cell k
                rw [List.getElem?_toArray, get_lt vs (.slice none 0 0) (by omega)] at hck
                have HVK := hide (show ∀ x, (vs.set k x).length = n from fun x => by rw [List.length_set]; exact hvs)
                have HGS := hide (show ∀ x j, j < n → (vs.set k x).getD j (.slice none 0 0) = if j = k then x else vs.getD j (.slice none 0 0) from fun x j hj => getD_set vs x _ (by omega))
                generalize vs.getD k (.slice none 0 0) = v0 at *
                obtain ⟨Aq, cq, rfl, _, hcq⟩ := hq0.form
                unfold maxLen at hcq
                have HQ0 := hide hq0
                clear hq0
                cases hch : chgB m rs (t + 1) k with
                | false =>
                  obtain ⟨hn1, hn2⟩ := left_no (U := U) (by have := hlu; omega) hch
                  have HPC := hide (part_same hch)
                  have HN1 := hide hn1
                  have HN2 := hide hn2
                  clear hch hn1 hn2
                  have HREL := hide (show ∀ j, j < n → RdS 2 ptc wB [B0] (vs.getD j (.slice none 0 0)) (leftQ m rs U (if j < k + 1 then (t + 1) + 1 else (t + 1)) j) from fun j hj => by
                    by_cases hjk : j = k
                    · subst hjk
                      rw [if_pos (Nat.lt_succ_self j)]
                      have h := hrd.out j hj
                      rw [if_neg (Nat.lt_irrefl j)] at h
                      rw [HN1.out]
                      exact h
                    · have h := hrd.out j hj
                      by_cases h1 : j < k
                      · rw [if_pos (by omega)]; rwa [if_pos h1] at h
                      · rw [if_neg (by omega)]; rwa [if_neg h1] at h)
                  cases hq : leftQ m rs U (t + 1) k with
                  | nil =>
                    have HQN := hide (show (leftQ m rs U (t + 1) k).length = 0 by rw [hq]; rfl)
                    rw [HQN.out] at hck HQ0 hql
                    clear hq
                    go_wp2_with fail
                    go_roundw
                    case rel => exact ⟨k + 1, vs, by omega, hvs, by go_num, hb, HREL, hide (by unfold OwnA; rw [HPC.out, HPN.out]; exact HOWN.out), ho⟩
                    case measure => simp [intOf] <;> omega
                  | cons x rest =>
                    obtain ⟨x1, x2⟩ := x
                    have HQL := hide (show (leftQ m rs U (t + 1) k).length = rest.length + 1 by rw [hq]; rfl)
                    have hx := HN2.out (x1, x2) (by rw [hq]; exact List.mem_cons_self)
                    simp only at hx
                    rw [HQL.out] at hck hql
                    rw [hq] at HQ0
                    rw [List.length_cons] at HQ0
                    obtain ⟨g, o, rfl, _, _⟩ := HQ0.out.addr (by simp)
                    have d1 := (HQ0.out.only ho.out (by simp)).cell (i := 0) (p := (x1, x2)) rfl (j := 0) (u := .int .i64 x1) rfl
                    simp at d1
                    have hne : (x1 == ((t : Int) + 1)) = false := by rw [beq_eq_false_iff_ne]; omega
                    have hp0 : (0 : Int) < (rest.length : Int) + 1 := by omega
                    clear hq hx
                    generalize rest.length = rl at *
                    go_wp2_with fail
                    go_roundw
                    case rel => exact ⟨k + 1, vs, by omega, hvs, by go_num, hb, HREL, hide (by unfold OwnA; rw [HPC.out, HPN.out]; exact HOWN.out), ho⟩
                    case measure => simp [intOf] <;> omega
                | true =>
                  have hq := left_yes (U := U) (by have := hlu; omega) hch
                  rw [show (((t + 1) : Nat) : Int) = ((t : Int) + 1) from by omega] at hq
                  have HPC := hide (part_chg hch)
                  unfold moveV at HPC
                  clear hch
                  have hy63 : nearAt m rs k (t + 1) ≤ 63 := HNM.out k (t + 1) hlt
                  have HAD := hide (fun W => address_any W k (nearAt m rs k (t + 1)) (by have := HN8.out; have := HN.out; omega) hy63)
                  unfold NumPost at HAD
                  have HQL := hide (show (leftQ m rs U (t + 1) k).length = (leftQ m rs U ((t + 1) + 1) k).length + 1 by rw [hq]; rfl)
                  rw [HQL.out] at hck hql
                  rw [hq, List.length_cons] at HQ0
                  clear hq
                  generalize nearAt m rs k (t + 1) = y at *
                  obtain ⟨rest, hrest⟩ : ∃ r, r = leftQ m rs U ((t + 1) + 1) k := ⟨_, rfl⟩
                  rw [← hrest] at hck hql HQ0 HQL
                  obtain ⟨g, o, rfl, _, _⟩ := HQ0.out.addr (by simp)
                  have HD := hide (show ∀ W, Only [B0] wB W → W.cell? ⟨g, o, none⟩ = some (.int .i64 ((t : Int) + 1)) ∧ W.cell? ⟨g, o + 1, none⟩ = some (.int .i64 (y : Nat)) from fun W h => ⟨(HQ0.out.only h (by simp)).cell (i := 0) (p := (((t : Int) + 1), ((y : Nat) : Int))) rfl (j := 0) (u := .int .i64 ((t : Int) + 1)) rfl, (HQ0.out.only h (by simp)).cell (i := 0) (p := (((t : Int) + 1), ((y : Nat) : Int))) rfl (j := 1) (u := .int .i64 (y : Nat)) rfl⟩)
                  obtain ⟨d1, d2⟩ := HD.out _ ho.out
                  have hp0 : (0 : Int) < (rest.length : Int) + 1 := by omega
                  have hrl0 : rest.length + 1 ≤ cq := by have := HQ0.out.form; obtain ⟨_, _, h1, h2, _⟩ := this; injection h1 with _ _ h3; subst h3; simpa using h2
                  generalize hrn : rest.length = rl at *
                  have HRN0 := hide hrn
                  clear hrn
                  go_upto_region 24 with fail
                  go_upto_region 25 with (first
                    | (go_at_call 45; refine (HAD.out _).mono ?_; rintro e w2 ⟨rfl, ho2⟩; have HO2 := hide ((ho.out.trans (ho2.mono (S' := [B0]) (by simp))).alloc (.cells #[.int .i64 6, .int .i64 (k : Nat), .int .i64 0, .int .i64 (8 * (y : Nat) + (k : Nat) + 1), .slice none 0 0] 66)); have HOW2 := hide (World.ownsRow.alloc (own_only HOWN.out ho2 (by simp)) (.cells #[.int .i64 6, .int .i64 (k : Nat), .int .i64 0, .int .i64 (8 * (y : Nat) + (k : Nat) + 1), .slice none 0 0] 66)); have HL2 := hide ((hb.out.only ho2 (by simp)).alloc (.cells #[.int .i64 6, .int .i64 (k : Nat), .int .i64 0, .int .i64 (8 * (y : Nat) + (k : Nat) + 1), .slice none 0 0] 66)); have HRN := hide (reads_new w2 66 (acC (6, (k : Int), 0, 8 * ((y : Nat) : Int) + k + 1)) (w2.heap.size + 1) 5 rfl (by omega)); clear ho2)
                    | (at_builtin; refine wpList_append_any _ rfl (.tmp 81) (.tmp 90) 56 rfl wB.heap.size 66 i0 (.agg #[.int .i64 0, .int .i64 0, .int .i64 0, .int .i64 0, .slice none 0 0]) 5 56 Try.underlying56 hi hz0 hz1 hz2 rfl (by decide) _ pn _ rfl HOW2.out (w2.heap.size + 1) (some ⟨w2.heap.size, 0, none⟩) 1 1 (acC (6, (k : Int), 0, 8 * ((y : Nat) : Int) + k + 1)) rfl HRN.out (by simp [acC, Value.oneCell']) (by unfold maxLen; omega) (by omega) HO2.out.size ?_; intro v1 w3 hown1 hg1 _; have HOW3 := hide (ownA_snoc (by rw [HPN.out]; exact hown1)); have HO3 := hide (HO2.out.grown hg1 (fun j hj => .inr (own_block_ge HOW2.out hj))); have HL3 := hide (HL2.out.grown hg1 (fun hj => by have := own_block_ge HOW2.out hj.symm; have := HBB.out; omega)); clear hown1 hg1))
                  have rf := HL3.out.frozen
                  have hck3 := HL3.out.cell k
                  rw [List.getElem?_toArray, List.getElem?_eq_getElem (by omega)] at hck3
                  have HTL := hide (show RdS 2 ptc wB [B0] (.slice (if cq = 1 then some ⟨g, o, none⟩ else some ⟨g, o + 2, none⟩) rl (cq - 1)) rest from rds_tail HQ0.out (fun hne => if_neg (fun h1 => hne (List.eq_nil_of_length_eq_zero (by have := HRN0.out; omega)))) (by omega) rfl)
                  rw [hrest] at HTL
                  go_wp2_with fail
                  go_roundw
                  case rel => exact ⟨k + 1, vs.set k (.slice (if cq = 1 then some ⟨g, o, none⟩ else some ⟨g, o + 2, none⟩) rl (cq - 1)), by omega, HVK.out _, by go_num, hide (by rw [← List.setIfInBounds_toArray]; exact HL3.out.set_ k _), hide (fun j hj => by
                    rw [HGS.out _ j hj]
                    by_cases hjk : j = k
                    · subst hjk
                      rw [if_pos rfl, if_pos (Nat.lt_succ_self j)]
                      exact HTL.out
                    · have h := hrd.out j hj
                      rw [if_neg hjk]
                      by_cases h1 : j < k
                      · rw [if_pos (by omega)]; rwa [if_pos h1] at h
                      · rw [if_neg (by omega)]; rwa [if_neg h1] at h), hide (by rw [HPC.out]; exact ownA_set HOW3.out HBB.out), hide (HO3.out.setCell (p := ⟨B0, k, none⟩) (.inl (by simp)) _)⟩
                  case measure => simp [intOf] <;> omega
              · have hlt' : ¬ (k : Int) < n := by omega
                obtain rfl : k = n := by omega
                go_wp2_with fail
                go_roundw
                case rel => exact ⟨(t + 1) + 1, vs, by omega, hvs, by go_num, hb, hide (fun j hj => by have h := hrd.out j hj; rwa [if_pos hj] at h), hide (by rw [← part_full, ← HN.out]; exact how.out), ho⟩
                case measure => simp [intOf] <;> omega
        · have hlu' : ¬ (t : Int) ≤ U := by omega
          obtain rfl : t = U + 1 := by omega
          have HRR := hide (ownA_rds (N := []) hout.out (by simp))
          obtain ⟨Av, cv, rfl, _, _⟩ := ownA_form hout.out
          go_wp2_with fail
          go_ret2
          exact ⟨_, rfl, HRR.out, only_in7 HOB.out ho.out HBW.out⟩
end
end Go.Proofs.Yteoifokmbkpbnaa

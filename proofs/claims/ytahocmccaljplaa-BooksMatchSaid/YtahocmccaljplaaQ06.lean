/-
  Walks and plain words (texts Bkd). No condition beyond those that each theorem states.
-/
import Derived.Test.YtahocmccaljplaaQ05
namespace Go.Proofs.Ytahocmccaljplaa
section
open Go.RowKit Go.Deep Go.Maps Go.WideMaps

theorem step_first {l : List Rc} {i k : Nat} {y : Rc} (hy : l[i]? = some y) (h : y.k = 2) (hk : k < i) (hf : freeB l (matchN l i) y k = true) (hn : ∀ q, q < k → freeB l (matchN l i) y q = false) : matchN l (i + 1) = ((matchN l i).set i (k : Nat)).set k (i : Nat) := by
  show stepM l (matchN l i) i = _
  unfold stepM; rw [hy]; simp only; rw [if_pos h]
  rw [List.find?_range_eq_some.2 ⟨hf, by simpa using hk, fun j hj => by rw [hn j hj]; rfl⟩]
theorem step_nobody {l : List Rc} {i : Nat} {y : Rc} (hy : l[i]? = some y) (h : y.k = 2) (hn : ∀ q, q < i → freeB l (matchN l i) y q = false) : matchN l (i + 1) = matchN l i := by
  show stepM l (matchN l i) i = _
  unfold stepM; rw [hy]; simp only; rw [if_pos h]
  rw [List.find?_eq_none.2 (fun x hx => by rw [hn x (by simpa using hx)]; decide)]
theorem own_out {w : World} {B n j : Nat} {A : Option Addr} {c : Nat} {xs : List Int} (h : w.ownsRow B 3 1 (.slice A n c) n (ints .i64 xs)) (hj : j < n) : ∃ g, A = some ⟨g, 0, none⟩ ∧ B ≤ g ∧ g < w.heap.size ∧ ∀ q, q < n → w.cell? ⟨g, q, none⟩ = some (.int .i64 (xs.getD q 0)) ∧ w.frozen? ⟨g, q, none⟩ = false ∧ ∀ y : Int, (w.setCell ⟨g, q, none⟩ (.int .i64 y)).ownsRow B 3 1 (.slice A n c) n (ints .i64 (xs.set q y)) := by
  obtain ⟨h1, h2⟩ := h
  have hlen : xs.length = n := by simpa [ints] using h1
  rcases h2 with ⟨_, h0⟩ | ⟨g, cap, cur, he, hb, hg, hnc, hcm, hcs, ht⟩
  · omega
  · injection he with e1 e2 e3
    subst e1 e3
    have hblk : Blk w g 3 cur := hg
    refine ⟨g, rfl, hb, hblk.lt, fun q hq => ⟨?_, hblk.frozen q, fun y => ⟨by simp [ints, hlen], .inr ⟨g, c, _, rfl, hb, hblk.set_ q (.int .i64 y), hnc, hcm, by simpa using hcs, ?_⟩⟩⟩⟩
    · rw [hblk.cell]
      have hx := congrArg (fun l => l[q]?) ht
      simp only [List.getElem?_take] at hx
      rw [if_pos (by omega)] at hx
      rw [← Array.getElem?_toList, hx]
      simp [ints, List.getElem?_eq_getElem (show q < xs.length by omega), List.getD_eq_getElem?_getD]
    · rw [Array.toList_setIfInBounds, List.take_set, ht]
      simp [ints, List.map_set]
theorem nofree {f : Nat → Bool} {q : Nat} (h : ∀ z, z < q → f z = false) (hq : f q = false) : ∀ z, z < q + 1 → f z = false := by
  intro z hz
  by_cases e : z = q
  · rw [e]; exact hq
  · exact h z (by omega)
def OwnM (B : Nat) (A : Option Addr) (n c : Nat) (xs : List Int) (wr : World) : Prop := wr.ownsRow B 3 1 (.slice A n c) n (ints .i64 xs)
theorem own_drewN {w : World} {B : Nat} {A : Option Addr} {n c : Nat} {xs : List Int} (h : OwnM B A n c xs w) (k : Nat) : OwnM B A n c xs (w.drewN k) := h
set_option maxRecDepth 100000 in
set_option maxHeartbeats 12800000 in
theorem MatchR_any (w : World) (A0 : Option Addr) (cap : Nat) (L : List (Rc × Value)) (hL : RdS 5 rkC w [] (.slice A0 L.length cap) L) (hfit : ∀ r ∈ L, RkFit w r) (hl : L.length ≤ 60) :
    Calls Try.prog 7 #[.slice A0 L.length cap] w (MatchPost (L.map Prod.fst) w) := by
  obtain ⟨n, hn⟩ : ∃ n, n = L.length := ⟨_, rfl⟩
  obtain ⟨l, hll⟩ : ∃ l, l = L.map Prod.fst := ⟨_, rfl⟩
  have HLN := hide (show l.length = n by rw [hll, hn, List.length_map])
  have HN := hide hn
  have HLL := hide hll
  rw [← hn] at hL hl ⊢
  rw [← hll]
  have HL := hide hL
  have HFIT := hide hfit
  have HOE := hide (own_empty w 3 w.heap.size (Nat.le_refl _))
  have HO0 := hide ((Only.refl [] w).alloc (.cells #[] 3))
  clear hL hfit hn hll
  go_enter Try.func7, Try.ntmps7
  go_wp2_with fail
  obtain ⟨B, hB⟩ : ∃ B, B = w.heap.size := ⟨_, rfl⟩
  generalize (w.alloc (.cells #[] 3)) = w1 at *
  rw [← hB] at HOE ⊢
  have HB := hide hB
  clear hB
  go_loopw [4, 3] (fun iv pv wr => ∃ i : Nat, i ≤ n ∧ iv = .int .i64 i ∧ Hid (wr.ownsRow B 3 1 pv (List.replicate i (-1 : Int)).length (ints .i64 (List.replicate i (-1)))) ∧ Hid (Only [] w wr)) (fun iv _ _ => n - (intOf iv).toNat)
  case atStart => exact ⟨0, Nat.zero_le _, rfl, HOE, HO0⟩
  case round =>
    obtain ⟨i, hin, rfl, HP, HO⟩ := hrel
    by_cases hi : i < n
    case pos =>
      have hiI : (i : Int) < (n : Int) := by omega
      go_wp2_with (at_builtin; refine wpList_int_append rfl (.tmp 14) (.tmp 15) rfl B _ (List.replicate i (-1)) rfl HP.out (by simp; omega) (by have := HO.out.size; have := HB.out; omega) rfl ?_; intro v2 w2 h1 _ h2 _; have HP2 := hide h1; have HO2 := hide (h2 [] w HO.out (fun q hq => .inr (by have := HB.out; omega))); clear h1 h2; rw [← List.replicate_succ'] at HP2)
      exact ⟨⟨i + 1, by omega, congrArg (Value.int .i64) (by omega), HP2, HO2⟩, by simp only [intOf]; omega⟩
    case neg =>
      obtain rfl : i = n := by omega
      have hnI : ¬ (i : Int) < (i : Int) := by omega
      rw [List.length_replicate] at HP
      obtain ⟨A, c, rfl, hnc, _⟩ := own_form HP.out
      have HOM := hide (show OwnM B A i c (matchN l 0) wr by have h := HP.out; rw [show matchN l 0 = List.replicate i (-1) from by rw [matchN, HLN.out]]; exact h)
      clear hnc HP
      go_wp2_with fail
      go_loopw [5] (fun jv wq => ∃ j : Nat, j ≤ i ∧ jv = .int .i64 j ∧ Hid (OwnM B A i c (matchN l j) wq) ∧ Hid (Only [] w wq)) (fun jv _ => i - (intOf jv).toNat)
      case atStart => exact ⟨0, Nat.zero_le _, rfl, HOM, HO⟩
      case round =>
        obtain ⟨j, hjn, rfl, HM, HO2⟩ := hrel
        by_cases hj : j < i
        case neg =>
          obtain rfl : j = i := by omega
          go_wp2_with fail
          go_ret
          have h := HM.out
          unfold OwnM at h
          rw [show matchN l j = matchM l by unfold matchM; rw [HLN.out]] at h
          exact ⟨_, rfl, (Rd.of_own h (by simp)).1, HO2.out⟩
        case pos =>
          have hjI : (j : Int) < (i : Int) := by omega
          obtain ⟨r, hr⟩ : ∃ r, L[j]? = some r := ⟨_, List.getElem?_eq_getElem (by rw [← HN.out]; exact hj)⟩
          obtain ⟨⟨k, a, p, b, nw⟩, v⟩ := r
          have HY := hide (show l[j]? = some ⟨k, a, p, b, nw⟩ by rw [HLL.out, List.getElem?_map, hr]; rfl)
          obtain ⟨g, o, hA, _, hglt⟩ := HL.out.addr (by have := HN.out; omega)
          subst hA
          have HG5 := hide (fun W (h : Only [] w W) => rec_get hr (HL.out.only h (by simp)))
          obtain ⟨c0, -, -, -, -⟩ := HG5.out _ HO2.out
          simp only at c0
          by_cases hk : k = 2
          case neg =>
            have t1 : (k != 2) = true := by rw [bne_iff_ne]; exact hk
            have HM2 := hide (show OwnM B A i c (matchN l (j + 1)) wr by rw [step_none l j ⟨k, a, p, b, nw⟩ HY.out hk]; exact HM.out)
            clear hk hr
            go_wp2_with fail
            exact ⟨⟨j + 1, by omega, congrArg (Value.int .i64) (by omega), HM2, HO2⟩, by simp only [intOf]; omega⟩
          case pos =>
            have t1 : (k != 2) = false := by rw [bne_eq_false_iff_eq]; exact hk
            have HK := hide hk
            have HR := hide hr
            clear hk hr
            go_wp2_with fail
            obtain ⟨gB, hA, hBg, _, _⟩ := own_out HM.out hj
            subst hA
            have HBG := hide (show w.heap.size ≤ gB by rw [← HB.out]; exact hBg)
            clear hBg
            have HIV := hide (inv_all l j (by rw [HLN.out]; exact hjn))
            go_loopw [6] (fun kv wq => ∃ q : Nat, q ≤ j ∧ kv = .int .i64 q ∧ ((Hid (OwnM B (some ⟨gB, 0, none⟩) i c (matchN l j) wq) ∧ Hid (∀ z, z < q → freeB l (matchN l j) ⟨k, a, p, b, nw⟩ z = false)) ∨ (Hid (OwnM B (some ⟨gB, 0, none⟩) i c (matchN l (j + 1)) wq) ∧ Hid (0 ≤ (matchN l (j + 1)).getD j 0))) ∧ Hid (Only [] w wq)) (fun kv _ => j - (intOf kv).toNat)
            case atStart => exact ⟨0, Nat.zero_le _, rfl, .inl ⟨HM, hide (fun z hz => absurd hz (Nat.not_lt_zero z))⟩, HO2⟩
            case round =>
              obtain ⟨q, hqj, rfl, HFN, HO3⟩ := hrel
              rcases HFN with ⟨HM3, HNF⟩ | ⟨HM3, HPOS⟩
              · by_cases hq : q < j
                · have hqI : (q : Int) < (j : Int) := by omega
                  obtain ⟨gB2, hA2, _, hgl, hcl⟩ := own_out HM3.out hj
                  obtain rfl : gB = gB2 := by injection hA2 with h; injection h
                  obtain ⟨cj, fj, sj⟩ := hcl j hj
                  obtain ⟨cq, fq, sq⟩ := hcl q (by omega)
                  rw [show (matchN l j).getD j 0 = -1 by rw [List.getD_eq_getElem?_getD, HIV.out.2.1 j (Nat.le_refl _) (by rw [HLN.out]; exact hj)]; rfl] at cj
                  obtain ⟨r2, hr2⟩ : ∃ r, L[q]? = some r := ⟨_, List.getElem?_eq_getElem (by rw [← HN.out]; omega)⟩
                  obtain ⟨⟨k2, a2, p2, b2, n2⟩, v2⟩ := r2
                  have HX := hide (show l[q]? = some ⟨k2, a2, p2, b2, n2⟩ by rw [HLL.out, List.getElem?_map, hr2]; rfl)
                  obtain ⟨hrd2, -⟩ := HFIT.out _ (List.mem_of_getElem? hr2)
                  obtain ⟨hrd1, -⟩ := HFIT.out _ (List.mem_of_getElem? HR.out)
                  simp only at hrd1 hrd2
                  have hrd1' := hrd1.only HO3.out (by simp)
                  have hrd2' := hrd2.only HO3.out (by simp)
                  have HRD1 := hide hrd1
                  have HRD2 := hide hrd2
                  obtain ⟨Av1, cv1, hv1, _, _⟩ := hrd1.formb
                  obtain ⟨Av2, cv2, hv2, _, _⟩ := hrd2.formb
                  rw [hv1] at HRD1 HG5
                  rw [hv2] at HRD2
                  have HXC := hide (fun W (h : Only [] w W) => rec_get (hv2 ▸ hr2) (HL.out.only h (by simp)))
                  have HGL := hide hgl
                  have HCQ := hide cq
                  rw [hv1] at hrd1'
                  rw [hv2] at hrd2'
                  have s1 := rd_string (P := Try.prog) hrd1' 24 9 5 Try.underlying24 Try.underlying5 Try.underlying9
                  have s2 := rd_string (P := Try.prog) hrd2' 24 9 5 Try.underlying24 Try.underlying5 Try.underlying9
                  obtain ⟨-, y1, y2, y3, -⟩ := HG5.out _ HO3.out
                  obtain ⟨x0, x1, x2, x3, -⟩ := rec_get hr2 (HL.out.only HO3.out (by simp))
                  simp only at y1 y2 y3 x0 x1 x2 x3
                  rw [hv2] at x3
                  obtain ⟨mq, hmq⟩ : ∃ m, m = (matchN l j).getD q 0 := ⟨_, rfl⟩
                  rw [← hmq] at cq HCQ
                  have HMQ := hide hmq
                  have HFR := hide (show freeB l (matchN l j) ⟨k, a, p, b, nw⟩ q = (decide (k2 = 1 ∧ a2 = p ∧ p2 = a ∧ b2 = b) && decide (mq < 0)) by unfold freeB; rw [HX.out, ← HMQ.out]; rfl)
                  have HSJ := hide sj
                  have HSQ := hide sq
                  clear hcl sj sq hmq hr2 hrd1 hrd2 hrd1' hrd2' hv1 hv2 hA2 c0
                  by_cases d1 : k2 = 1
                  case neg =>
                    have t2 : (k2 == 1) = false := by rw [beq_eq_false_iff_ne]; exact d1
                    have HNF2 := hide (show ∀ z, z < q + 1 → freeB l (matchN l j) ⟨k, a, p, b, nw⟩ z = false from nofree HNF.out (by rw [HFR.out, decide_eq_false (fun h => d1 h.1)]; rfl))
                    clear d1
                    go_upto_region 13 with fail
                    go_quiet (fail)
                    go_wp2_with fail
                    exact ⟨⟨q + 1, by omega, congrArg (Value.int .i64) (by omega), .inl ⟨hide (own_drewN HM3.out nq), HNF2⟩, hide (HO3.out.drewN nq)⟩, by simp only [intOf]; omega⟩
                  case pos =>
                    have t2 : (k2 == 1) = true := by rw [beq_iff_eq]; exact d1
                    have D1 := hide d1
                    clear d1
                    by_cases d2 : mq < 0
                    case neg =>
                      have HNF2 := hide (show ∀ z, z < q + 1 → freeB l (matchN l j) ⟨k, a, p, b, nw⟩ z = false from nofree HNF.out (by rw [HFR.out]; rw [decide_eq_false (show ¬ mq < 0 from d2), Bool.and_false]))
                      go_upto_region 13 with fail
                      go_quiet (fail)
                      go_wp2_with fail
                      exact ⟨⟨q + 1, by omega, congrArg (Value.int .i64) (by omega), .inl ⟨hide (own_drewN HM3.out nq), HNF2⟩, hide (HO3.out.drewN nq)⟩, by simp only [intOf]; omega⟩
                    case pos =>
                      have D2 := hide d2
                      by_cases d3 : a2 = p
                      case neg =>
                        have t3 : (a2 == p) = false := by rw [beq_eq_false_iff_ne]; exact d3
                        have HNF2 := hide (show ∀ z, z < q + 1 → freeB l (matchN l j) ⟨k, a, p, b, nw⟩ z = false from nofree HNF.out (by rw [HFR.out]; rw [decide_eq_false (fun h => d3 h.2.1)]; rfl))
                        clear d3
                        go_upto_region 13 with fail
                        go_quiet (fail)
                        go_wp2_with fail
                        exact ⟨⟨q + 1, by omega, congrArg (Value.int .i64) (by omega), .inl ⟨hide (own_drewN HM3.out nq), HNF2⟩, hide (HO3.out.drewN nq)⟩, by simp only [intOf]; omega⟩
                      case pos =>
                        have t3 : (a2 == p) = true := by rw [beq_iff_eq]; exact d3
                        have D3 := hide d3
                        clear d3
                        by_cases d4 : p2 = a
                        case neg =>
                          have t4 : (p2 == a) = false := by rw [beq_eq_false_iff_ne]; exact d4
                          have HNF2 := hide (show ∀ z, z < q + 1 → freeB l (matchN l j) ⟨k, a, p, b, nw⟩ z = false from nofree HNF.out (by rw [HFR.out]; rw [decide_eq_false (fun h => d4 h.2.2.1)]; rfl))
                          clear d4
                          go_upto_region 13 with fail
                          go_quiet (fail)
                          go_wp2_with fail
                          exact ⟨⟨q + 1, by omega, congrArg (Value.int .i64) (by omega), .inl ⟨hide (own_drewN HM3.out nq), HNF2⟩, hide (HO3.out.drewN nq)⟩, by simp only [intOf]; omega⟩
                        case pos =>
                          have t4 : (p2 == a) = true := by rw [beq_iff_eq]; exact d4
                          have D4 := hide d4
                          clear d4
                          obtain ⟨S1, hS1⟩ : ∃ S : ByteArray, S = ⟨b.toArray⟩ := ⟨_, rfl⟩
                          obtain ⟨S2, hS2⟩ : ∃ S : ByteArray, S = ⟨b2.toArray⟩ := ⟨_, rfl⟩
                          have HS1 := hide (fun W (h : Only [] w W) => rd_string (P := Try.prog) (HRD1.out.only h (by simp)) 24 9 5 Try.underlying24 Try.underlying5 Try.underlying9)
                          have HS2 := hide (fun W (h : Only [] w W) => rd_string (P := Try.prog) (HRD2.out.only h (by simp)) 24 9 5 Try.underlying24 Try.underlying5 Try.underlying9)
                          rw [← hS1] at HS1
                          rw [← hS2] at HS2
                          rw [← hS1] at s1
                          rw [← hS2] at s2
                          have HSB := hide (show (S2.toList == S1.toList) = decide (b2 = b) by rw [ByteArray.toList_eq, ByteArray.toList_eq, hS1, hS2, Bool.eq_iff_iff, beq_iff_eq, decide_eq_true_eq])
                          clear hS1 hS2
                          have HQI := hide (show q < i by omega)
                          have HJI := hide hj
                          obtain ⟨e5, he5⟩ : ∃ e, e = decide (b2 = b) := ⟨_, rfl⟩
                          rw [← he5] at HSB
                          have HE5 := hide he5
                          clear he5 x0 x1 x2 x3 y1 y2 y3 s1 s2 cq
                          go_upto_region 13 with fail
                          refine wp_region_held_drew (S := fun W => Only [] wr W) (by kernel_rfl) (by exact (Only.refl [] wr).drew) (fun hHeld => ?_)
                          have HMD := hide (show OwnM B (some ⟨gB, 0, none⟩) i c (matchN l j) wr.drew from HM3.out)
                          have HOD := hide (HO3.out.drew)
                          generalize wr.drew = wd at *
                          refine wpAnyH_take (i := 0) (v := ?_) rfl (by kernel_rfl) (by kernel_rfl) (by kernel_rfl) (fun _ _ _ h => h) (Or.inl ⟨by rfl, ?_⟩) (by assumption) ?_
                          rotate_left
                          · (intro wz hSw; (try dsimp only at hSw); go_simp; try with_reducible rfl)
                          try simp only [List.getElem_toArray, List.getElem_cons_succ, List.getElem_cons_zero, Act.put, List.setIfInBounds_toArray, List.set_cons_zero, List.set_cons_succ]
                          refine wpAnyH_take (i := 1) (v := ?_) rfl (by kernel_rfl) (by kernel_rfl) (by kernel_rfl) (fun _ _ _ h => h) (Or.inl ⟨by rfl, ?_⟩) (by assumption) ?_
                          rotate_left
                          · (intro wz hSw; (try dsimp only at hSw); go_simp; try with_reducible rfl)
                          try simp only [List.getElem_toArray, List.getElem_cons_succ, List.getElem_cons_zero, Act.put, List.setIfInBounds_toArray, List.set_cons_zero, List.set_cons_succ]
                          refine wpAnyH_take (i := 2) (v := ?_) rfl (by kernel_rfl) (by kernel_rfl) (by kernel_rfl) (fun _ _ _ h => h) (Or.inl ⟨by rfl, ?_⟩) (by assumption) ?_
                          rotate_left
                          · (intro wz hSw; (try dsimp only at hSw); have hqi := HQI.out; have hji := HJI.out; go_simp; try with_reducible rfl)
                          try simp only [List.getElem_toArray, List.getElem_cons_succ, List.getElem_cons_zero, Act.put, List.setIfInBounds_toArray, List.set_cons_zero, List.set_cons_succ]
                          refine wpAnyH_take (i := 3) (v := ?_) rfl (by kernel_rfl) (by kernel_rfl) (by kernel_rfl) (fun _ _ _ h => h) (Or.inl ⟨by rfl, ?_⟩) (by assumption) ?_
                          rotate_left
                          · (intro wz hSw; (try dsimp only at hSw); go_simp; try with_reducible rfl)
                          try simp only [List.getElem_toArray, List.getElem_cons_succ, List.getElem_cons_zero, Act.put, List.setIfInBounds_toArray, List.set_cons_zero, List.set_cons_succ]
                          refine wpAnyH_take (i := 4) (v := ?_) rfl (by kernel_rfl) (by kernel_rfl) (by kernel_rfl) (fun _ _ _ h => h) (Or.inl ⟨by rfl, ?_⟩) (by assumption) ?_
                          rotate_left
                          · (intro wz hSw; (try dsimp only at hSw); have hx9 := HXC.out wz (HO3.out.trans hSw); obtain ⟨x0, x1, x2, x3, -⟩ := hx9; (try simp only at x0 x1 x2 x3); go_simp; try with_reducible rfl)
                          try simp only [List.getElem_toArray, List.getElem_cons_succ, List.getElem_cons_zero, Act.put, List.setIfInBounds_toArray, List.set_cons_zero, List.set_cons_succ]
                          refine wpAnyH_take (i := 5) (v := ?_) rfl (by kernel_rfl) (by kernel_rfl) (by kernel_rfl) (fun _ _ _ h => h) (Or.inl ⟨by rfl, ?_⟩) (by assumption) ?_
                          rotate_left
                          · (intro wz hSw; (try dsimp only at hSw); go_simp; try with_reducible rfl)
                          try simp only [List.getElem_toArray, List.getElem_cons_succ, List.getElem_cons_zero, Act.put, List.setIfInBounds_toArray, List.set_cons_zero, List.set_cons_succ]
                          refine wpAnyH_take (i := 6) (v := ?_) rfl (by kernel_rfl) (by kernel_rfl) (by kernel_rfl) (fun _ _ _ h => h) (Or.inl ⟨by rfl, ?_⟩) (by assumption) ?_
                          rotate_left
                          · (intro wz hSw; (try dsimp only at hSw); go_simp; try with_reducible rfl)
                          try simp only [List.getElem_toArray, List.getElem_cons_succ, List.getElem_cons_zero, Act.put, List.setIfInBounds_toArray, List.set_cons_zero, List.set_cons_succ]
                          refine wpAnyH_take (i := 7) (v := ?_) rfl (by kernel_rfl) (by kernel_rfl) (by kernel_rfl) (fun _ _ _ h => h) (Or.inl ⟨by rfl, ?_⟩) (by assumption) ?_
                          rotate_left
                          · (intro wz hSw; (try dsimp only at hSw); go_simp; try with_reducible rfl)
                          try simp only [List.getElem_toArray, List.getElem_cons_succ, List.getElem_cons_zero, Act.put, List.setIfInBounds_toArray, List.set_cons_zero, List.set_cons_succ]
                          refine wpAnyH_take (i := 8) (v := ?_) rfl (by kernel_rfl) (by kernel_rfl) (by kernel_rfl) (fun _ _ _ h => h) (Or.inl ⟨by rfl, ?_⟩) (by assumption) ?_
                          rotate_left
                          · (intro wz hSw; (try dsimp only at hSw); go_simp; try with_reducible rfl)
                          try simp only [List.getElem_toArray, List.getElem_cons_succ, List.getElem_cons_zero, Act.put, List.setIfInBounds_toArray, List.set_cons_zero, List.set_cons_succ]
                          refine wpAnyH_take (i := 9) (v := ?_) rfl (by kernel_rfl) (by kernel_rfl) (by kernel_rfl) (fun _ _ _ h => h) (Or.inl ⟨by rfl, ?_⟩) (by assumption) ?_
                          rotate_left
                          · (intro wz hSw; (try dsimp only at hSw); have hqi := HQI.out; have hji := HJI.out; go_simp; try with_reducible rfl)
                          try simp only [List.getElem_toArray, List.getElem_cons_succ, List.getElem_cons_zero, Act.put, List.setIfInBounds_toArray, List.set_cons_zero, List.set_cons_succ]
                          refine wpAnyH_take (i := 10) (v := ?_) rfl (by kernel_rfl) (by kernel_rfl) (by kernel_rfl) (fun _ _ _ h => h) (Or.inl ⟨by rfl, ?_⟩) (by assumption) ?_
                          rotate_left
                          · (intro wz hSw; (try dsimp only at hSw); have cq2 := (cell_only hSw HGL.out (by simp)).trans HCQ.out; go_simp; try with_reducible rfl)
                          try simp only [List.getElem_toArray, List.getElem_cons_succ, List.getElem_cons_zero, Act.put, List.setIfInBounds_toArray, List.set_cons_zero, List.set_cons_succ]
                          refine wpAnyH_take (i := 11) (v := ?_) rfl (by kernel_rfl) (by kernel_rfl) (by kernel_rfl) (fun _ _ _ h => h) (Or.inl ⟨by rfl, ?_⟩) (by assumption) ?_
                          rotate_left
                          · (intro wz hSw; (try dsimp only at hSw); go_simp; try with_reducible rfl)
                          try simp only [List.getElem_toArray, List.getElem_cons_succ, List.getElem_cons_zero, Act.put, List.setIfInBounds_toArray, List.set_cons_zero, List.set_cons_succ]
                          refine wpAnyH_take (i := 12) (v := ?_) rfl (by kernel_rfl) (by kernel_rfl) (by kernel_rfl) (fun _ _ _ h => h) (Or.inl ⟨by rfl, ?_⟩) (by assumption) ?_
                          rotate_left
                          · (intro wz hSw; (try dsimp only at hSw); go_simp; try with_reducible rfl)
                          try simp only [List.getElem_toArray, List.getElem_cons_succ, List.getElem_cons_zero, Act.put, List.setIfInBounds_toArray, List.set_cons_zero, List.set_cons_succ]
                          refine wpAnyH_take (i := 13) (v := ?_) rfl (by kernel_rfl) (by kernel_rfl) (by kernel_rfl) (fun _ _ _ h => h) (Or.inl ⟨by rfl, ?_⟩) (by assumption) ?_
                          rotate_left
                          · (intro wz hSw; (try dsimp only at hSw); go_simp; try with_reducible rfl)
                          try simp only [List.getElem_toArray, List.getElem_cons_succ, List.getElem_cons_zero, Act.put, List.setIfInBounds_toArray, List.set_cons_zero, List.set_cons_succ]
                          refine wpAnyH_take (i := 14) (v := ?_) rfl (by kernel_rfl) (by kernel_rfl) (by kernel_rfl) (fun _ _ _ h => h) (Or.inl ⟨by rfl, ?_⟩) (by assumption) ?_
                          rotate_left
                          · (intro wz hSw; (try dsimp only at hSw); go_simp; try with_reducible rfl)
                          try simp only [List.getElem_toArray, List.getElem_cons_succ, List.getElem_cons_zero, Act.put, List.setIfInBounds_toArray, List.set_cons_zero, List.set_cons_succ]
                          refine wpAnyH_take (i := 15) (v := ?_) rfl (by kernel_rfl) (by kernel_rfl) (by kernel_rfl) (fun _ _ _ h => h) (Or.inl ⟨by rfl, ?_⟩) (by assumption) ?_
                          rotate_left
                          · (intro wz hSw; (try dsimp only at hSw); go_simp; try with_reducible rfl)
                          try simp only [List.getElem_toArray, List.getElem_cons_succ, List.getElem_cons_zero, Act.put, List.setIfInBounds_toArray, List.set_cons_zero, List.set_cons_succ]
                          refine wpAnyH_take (i := 16) (v := ?_) rfl (by kernel_rfl) (by kernel_rfl) (by kernel_rfl) (fun _ _ _ h => h) (Or.inl ⟨by rfl, ?_⟩) (by assumption) ?_
                          rotate_left
                          · (intro wz hSw; (try dsimp only at hSw); have hqi := HQI.out; have hji := HJI.out; go_simp; try with_reducible rfl)
                          try simp only [List.getElem_toArray, List.getElem_cons_succ, List.getElem_cons_zero, Act.put, List.setIfInBounds_toArray, List.set_cons_zero, List.set_cons_succ]
                          refine wpAnyH_take (i := 17) (v := ?_) rfl (by kernel_rfl) (by kernel_rfl) (by kernel_rfl) (fun _ _ _ h => h) (Or.inl ⟨by rfl, ?_⟩) (by assumption) ?_
                          rotate_left
                          · (intro wz hSw; (try dsimp only at hSw); go_simp; try with_reducible rfl)
                          try simp only [List.getElem_toArray, List.getElem_cons_succ, List.getElem_cons_zero, Act.put, List.setIfInBounds_toArray, List.set_cons_zero, List.set_cons_succ]
                          refine wpAnyH_take (i := 18) (v := ?_) rfl (by kernel_rfl) (by kernel_rfl) (by kernel_rfl) (fun _ _ _ h => h) (Or.inl ⟨by rfl, ?_⟩) (by assumption) ?_
                          rotate_left
                          · (intro wz hSw; (try dsimp only at hSw); have hx9 := HXC.out wz (HO3.out.trans hSw); obtain ⟨x0, x1, x2, x3, -⟩ := hx9; (try simp only at x0 x1 x2 x3); go_simp; try with_reducible rfl)
                          try simp only [List.getElem_toArray, List.getElem_cons_succ, List.getElem_cons_zero, Act.put, List.setIfInBounds_toArray, List.set_cons_zero, List.set_cons_succ]
                          refine wpAnyH_take (i := 19) (v := ?_) rfl (by kernel_rfl) (by kernel_rfl) (by kernel_rfl) (fun _ _ _ h => h) (Or.inl ⟨by rfl, ?_⟩) (by assumption) ?_
                          rotate_left
                          · (intro wz hSw; (try dsimp only at hSw); go_simp; try with_reducible rfl)
                          try simp only [List.getElem_toArray, List.getElem_cons_succ, List.getElem_cons_zero, Act.put, List.setIfInBounds_toArray, List.set_cons_zero, List.set_cons_succ]
                          refine wpAnyH_take (i := 20) (v := ?_) rfl (by kernel_rfl) (by kernel_rfl) (by kernel_rfl) (fun _ _ _ h => h) (Or.inl ⟨by rfl, ?_⟩) (by assumption) ?_
                          rotate_left
                          · (intro wz hSw; (try dsimp only at hSw); go_simp; try with_reducible rfl)
                          try simp only [List.getElem_toArray, List.getElem_cons_succ, List.getElem_cons_zero, Act.put, List.setIfInBounds_toArray, List.set_cons_zero, List.set_cons_succ]
                          refine wpAnyH_take (i := 21) (v := ?_) rfl (by kernel_rfl) (by kernel_rfl) (by kernel_rfl) (fun _ _ _ h => h) (Or.inl ⟨by rfl, ?_⟩) (by assumption) ?_
                          rotate_left
                          · (intro wz hSw; (try dsimp only at hSw); have hqi := HQI.out; have hji := HJI.out; go_simp; try with_reducible rfl)
                          try simp only [List.getElem_toArray, List.getElem_cons_succ, List.getElem_cons_zero, Act.put, List.setIfInBounds_toArray, List.set_cons_zero, List.set_cons_succ]
                          refine wpAnyH_take (i := 22) (v := ?_) rfl (by kernel_rfl) (by kernel_rfl) (by kernel_rfl) (fun _ _ _ h => h) (Or.inl ⟨by rfl, ?_⟩) (by assumption) ?_
                          rotate_left
                          · (intro wz hSw; (try dsimp only at hSw); go_simp; try with_reducible rfl)
                          try simp only [List.getElem_toArray, List.getElem_cons_succ, List.getElem_cons_zero, Act.put, List.setIfInBounds_toArray, List.set_cons_zero, List.set_cons_succ]
                          refine wpAnyH_take (i := 23) (v := ?_) rfl (by kernel_rfl) (by kernel_rfl) (by kernel_rfl) (fun _ _ _ h => h) (Or.inl ⟨by rfl, ?_⟩) (by assumption) ?_
                          rotate_left
                          · (intro wz hSw; (try dsimp only at hSw); have hy9 := HG5.out wz (HO3.out.trans hSw); obtain ⟨-, y1, y2, y3, -⟩ := hy9; (try simp only at y1 y2 y3); go_simp; try with_reducible rfl)
                          try simp only [List.getElem_toArray, List.getElem_cons_succ, List.getElem_cons_zero, Act.put, List.setIfInBounds_toArray, List.set_cons_zero, List.set_cons_succ]
                          refine wpAnyH_take (i := 24) (v := ?_) rfl (by kernel_rfl) (by kernel_rfl) (by kernel_rfl) (fun _ _ _ h => h) (Or.inl ⟨by rfl, ?_⟩) (by assumption) ?_
                          rotate_left
                          · (intro wz hSw; (try dsimp only at hSw); go_simp; try with_reducible rfl)
                          try simp only [List.getElem_toArray, List.getElem_cons_succ, List.getElem_cons_zero, Act.put, List.setIfInBounds_toArray, List.set_cons_zero, List.set_cons_succ]
                          refine wpAnyH_take (i := 25) (v := ?_) rfl (by kernel_rfl) (by kernel_rfl) (by kernel_rfl) (fun _ _ _ h => h) (Or.inl ⟨by rfl, ?_⟩) (by assumption) ?_
                          rotate_left
                          · (intro wz hSw; (try dsimp only at hSw); go_simp; try with_reducible rfl)
                          try simp only [List.getElem_toArray, List.getElem_cons_succ, List.getElem_cons_zero, Act.put, List.setIfInBounds_toArray, List.set_cons_zero, List.set_cons_succ]
                          refine wpAnyH_take (i := 26) (v := ?_) rfl (by kernel_rfl) (by kernel_rfl) (by kernel_rfl) (fun _ _ _ h => h) (Or.inl ⟨by rfl, ?_⟩) (by assumption) ?_
                          rotate_left
                          · (intro wz hSw; (try dsimp only at hSw); go_simp; try with_reducible rfl)
                          try simp only [List.getElem_toArray, List.getElem_cons_succ, List.getElem_cons_zero, Act.put, List.setIfInBounds_toArray, List.set_cons_zero, List.set_cons_succ]
                          refine wpAnyH_take (i := 27) (v := ?_) rfl (by kernel_rfl) (by kernel_rfl) (by kernel_rfl) (fun _ _ _ h => h) (Or.inl ⟨by rfl, ?_⟩) (by assumption) ?_
                          rotate_left
                          · (intro wz hSw; (try dsimp only at hSw); go_simp; try with_reducible rfl)
                          try simp only [List.getElem_toArray, List.getElem_cons_succ, List.getElem_cons_zero, Act.put, List.setIfInBounds_toArray, List.set_cons_zero, List.set_cons_succ]
                          refine wpAnyH_take (i := 28) (v := ?_) rfl (by kernel_rfl) (by kernel_rfl) (by kernel_rfl) (fun _ _ _ h => h) (Or.inl ⟨by rfl, ?_⟩) (by assumption) ?_
                          rotate_left
                          · (intro wz hSw; (try dsimp only at hSw); go_simp; try with_reducible rfl)
                          try simp only [List.getElem_toArray, List.getElem_cons_succ, List.getElem_cons_zero, Act.put, List.setIfInBounds_toArray, List.set_cons_zero, List.set_cons_succ]
                          refine wpAnyH_take (i := 29) (v := ?_) rfl (by kernel_rfl) (by kernel_rfl) (by kernel_rfl) (fun _ _ _ h => h) (Or.inl ⟨by rfl, ?_⟩) (by assumption) ?_
                          rotate_left
                          · (intro wz hSw; (try dsimp only at hSw); have hqi := HQI.out; have hji := HJI.out; go_simp; try with_reducible rfl)
                          try simp only [List.getElem_toArray, List.getElem_cons_succ, List.getElem_cons_zero, Act.put, List.setIfInBounds_toArray, List.set_cons_zero, List.set_cons_succ]
                          refine wpAnyH_take (i := 30) (v := ?_) rfl (by kernel_rfl) (by kernel_rfl) (by kernel_rfl) (fun _ _ _ h => h) (Or.inl ⟨by rfl, ?_⟩) (by assumption) ?_
                          rotate_left
                          · (intro wz hSw; (try dsimp only at hSw); go_simp; try with_reducible rfl)
                          try simp only [List.getElem_toArray, List.getElem_cons_succ, List.getElem_cons_zero, Act.put, List.setIfInBounds_toArray, List.set_cons_zero, List.set_cons_succ]
                          refine wpAnyH_take (i := 31) (v := ?_) rfl (by kernel_rfl) (by kernel_rfl) (by kernel_rfl) (fun _ _ _ h => h) (Or.inl ⟨by rfl, ?_⟩) (by assumption) ?_
                          rotate_left
                          · (intro wz hSw; (try dsimp only at hSw); have hx9 := HXC.out wz (HO3.out.trans hSw); obtain ⟨x0, x1, x2, x3, -⟩ := hx9; (try simp only at x0 x1 x2 x3); go_simp; try with_reducible rfl)
                          try simp only [List.getElem_toArray, List.getElem_cons_succ, List.getElem_cons_zero, Act.put, List.setIfInBounds_toArray, List.set_cons_zero, List.set_cons_succ]
                          refine wpAnyH_take (i := 32) (v := ?_) rfl (by kernel_rfl) (by kernel_rfl) (by kernel_rfl) (fun _ _ _ h => h) (Or.inl ⟨by rfl, ?_⟩) (by assumption) ?_
                          rotate_left
                          · (intro wz hSw; (try dsimp only at hSw); go_simp; try with_reducible rfl)
                          try simp only [List.getElem_toArray, List.getElem_cons_succ, List.getElem_cons_zero, Act.put, List.setIfInBounds_toArray, List.set_cons_zero, List.set_cons_succ]
                          refine wpAnyH_take (i := 33) (v := ?_) rfl (by kernel_rfl) (by kernel_rfl) (by kernel_rfl) (fun _ _ _ h => h) (Or.inl ⟨by rfl, ?_⟩) (by assumption) ?_
                          rotate_left
                          · (intro wz hSw; (try dsimp only at hSw); go_simp; try with_reducible rfl)
                          try simp only [List.getElem_toArray, List.getElem_cons_succ, List.getElem_cons_zero, Act.put, List.setIfInBounds_toArray, List.set_cons_zero, List.set_cons_succ]
                          refine wpAnyH_take (i := 34) (v := ?_) rfl (by kernel_rfl) (by kernel_rfl) (by kernel_rfl) (fun _ _ _ h => h) (Or.inl ⟨by rfl, ?_⟩) (by assumption) ?_
                          rotate_left
                          · (intro wz hSw; (try dsimp only at hSw); have hqi := HQI.out; have hji := HJI.out; go_simp; try with_reducible rfl)
                          try simp only [List.getElem_toArray, List.getElem_cons_succ, List.getElem_cons_zero, Act.put, List.setIfInBounds_toArray, List.set_cons_zero, List.set_cons_succ]
                          refine wpAnyH_take (i := 35) (v := ?_) rfl (by kernel_rfl) (by kernel_rfl) (by kernel_rfl) (fun _ _ _ h => h) (Or.inl ⟨by rfl, ?_⟩) (by assumption) ?_
                          rotate_left
                          · (intro wz hSw; (try dsimp only at hSw); go_simp; try with_reducible rfl)
                          try simp only [List.getElem_toArray, List.getElem_cons_succ, List.getElem_cons_zero, Act.put, List.setIfInBounds_toArray, List.set_cons_zero, List.set_cons_succ]
                          refine wpAnyH_take (i := 36) (v := ?_) rfl (by kernel_rfl) (by kernel_rfl) (by kernel_rfl) (fun _ _ _ h => h) (Or.inl ⟨by rfl, ?_⟩) (by assumption) ?_
                          rotate_left
                          · (intro wz hSw; (try dsimp only at hSw); have hy9 := HG5.out wz (HO3.out.trans hSw); obtain ⟨-, y1, y2, y3, -⟩ := hy9; (try simp only at y1 y2 y3); go_simp; try with_reducible rfl)
                          try simp only [List.getElem_toArray, List.getElem_cons_succ, List.getElem_cons_zero, Act.put, List.setIfInBounds_toArray, List.set_cons_zero, List.set_cons_succ]
                          refine wpAnyH_take (i := 37) (v := ?_) rfl (by kernel_rfl) (by kernel_rfl) (by kernel_rfl) (fun _ _ _ h => h) (Or.inl ⟨by rfl, ?_⟩) (by assumption) ?_
                          rotate_left
                          · (intro wz hSw; (try dsimp only at hSw); go_simp; try with_reducible rfl)
                          try simp only [List.getElem_toArray, List.getElem_cons_succ, List.getElem_cons_zero, Act.put, List.setIfInBounds_toArray, List.set_cons_zero, List.set_cons_succ]
                          refine wpAnyH_take (i := 38) (v := ?_) rfl (by kernel_rfl) (by kernel_rfl) (by kernel_rfl) (fun _ _ _ h => h) (Or.inl ⟨by rfl, ?_⟩) (by assumption) ?_
                          rotate_left
                          · (intro wz hSw; (try dsimp only at hSw); go_simp; try with_reducible rfl)
                          try simp only [List.getElem_toArray, List.getElem_cons_succ, List.getElem_cons_zero, Act.put, List.setIfInBounds_toArray, List.set_cons_zero, List.set_cons_succ]
                          refine wpAnyH_take (i := 39) (v := ?_) rfl (by kernel_rfl) (by kernel_rfl) (by kernel_rfl) (fun _ _ _ h => h) (Or.inl ⟨by rfl, ?_⟩) (by assumption) ?_
                          rotate_left
                          · (intro wz hSw; (try dsimp only at hSw); go_simp; try with_reducible rfl)
                          try simp only [List.getElem_toArray, List.getElem_cons_succ, List.getElem_cons_zero, Act.put, List.setIfInBounds_toArray, List.set_cons_zero, List.set_cons_succ]
                          refine wpAnyH_take (i := 40) (v := ?_) rfl (by kernel_rfl) (by kernel_rfl) (by kernel_rfl) (fun _ _ _ h => h) (Or.inl ⟨by rfl, ?_⟩) (by assumption) ?_
                          rotate_left
                          · (intro wz hSw; (try dsimp only at hSw); go_simp; try with_reducible rfl)
                          try simp only [List.getElem_toArray, List.getElem_cons_succ, List.getElem_cons_zero, Act.put, List.setIfInBounds_toArray, List.set_cons_zero, List.set_cons_succ]
                          refine wpAnyH_take (i := 41) (v := ?_) rfl (by kernel_rfl) (by kernel_rfl) (by kernel_rfl) (fun _ _ _ h => h) (Or.inl ⟨by rfl, ?_⟩) (by assumption) ?_
                          rotate_left
                          · (intro wz hSw; (try dsimp only at hSw); go_simp; try with_reducible rfl)
                          try simp only [List.getElem_toArray, List.getElem_cons_succ, List.getElem_cons_zero, Act.put, List.setIfInBounds_toArray, List.set_cons_zero, List.set_cons_succ]
                          refine wpAnyH_take (i := 42) (v := ?_) rfl (by kernel_rfl) (by kernel_rfl) (by kernel_rfl) (fun _ _ _ h => h) (Or.inl ⟨by rfl, ?_⟩) (by assumption) ?_
                          rotate_left
                          · (intro wz hSw; (try dsimp only at hSw); have hqi := HQI.out; have hji := HJI.out; go_simp; try with_reducible rfl)
                          try simp only [List.getElem_toArray, List.getElem_cons_succ, List.getElem_cons_zero, Act.put, List.setIfInBounds_toArray, List.set_cons_zero, List.set_cons_succ]
                          refine wpAnyH_take (i := 43) (v := ?_) rfl (by kernel_rfl) (by kernel_rfl) (by kernel_rfl) (fun _ _ _ h => h) (Or.inl ⟨by rfl, ?_⟩) (by assumption) ?_
                          rotate_left
                          · (intro wz hSw; (try dsimp only at hSw); go_simp; try with_reducible rfl)
                          try simp only [List.getElem_toArray, List.getElem_cons_succ, List.getElem_cons_zero, Act.put, List.setIfInBounds_toArray, List.set_cons_zero, List.set_cons_succ]
                          refine wpAnyH_take (i := 44) (v := ?_) rfl (by kernel_rfl) (by kernel_rfl) (by kernel_rfl) (fun _ _ _ h => h) (Or.inl ⟨by rfl, ?_⟩) (by assumption) ?_
                          rotate_left
                          · (intro wz hSw; (try dsimp only at hSw); have hx9 := HXC.out wz (HO3.out.trans hSw); obtain ⟨x0, x1, x2, x3, -⟩ := hx9; (try simp only at x0 x1 x2 x3); go_simp; try with_reducible rfl)
                          try simp only [List.getElem_toArray, List.getElem_cons_succ, List.getElem_cons_zero, Act.put, List.setIfInBounds_toArray, List.set_cons_zero, List.set_cons_succ]
                          refine wpAnyH_take (i := 45) (v := ?_) rfl (by kernel_rfl) (by kernel_rfl) (by kernel_rfl) (fun _ _ _ h => h) (Or.inl ⟨by rfl, ?_⟩) (by assumption) ?_
                          rotate_left
                          · (intro wz hSw; (try dsimp only at hSw); have s2 := HS2.out wz (HO3.out.trans hSw); go_simp; try with_reducible rfl)
                          try simp only [List.getElem_toArray, List.getElem_cons_succ, List.getElem_cons_zero, Act.put, List.setIfInBounds_toArray, List.set_cons_zero, List.set_cons_succ]
                          refine wpAnyH_take (i := 46) (v := ?_) rfl (by kernel_rfl) (by kernel_rfl) (by kernel_rfl) (fun _ _ _ h => h) (Or.inl ⟨by rfl, ?_⟩) (by assumption) ?_
                          rotate_left
                          · (intro wz hSw; (try dsimp only at hSw); go_simp; try with_reducible rfl)
                          try simp only [List.getElem_toArray, List.getElem_cons_succ, List.getElem_cons_zero, Act.put, List.setIfInBounds_toArray, List.set_cons_zero, List.set_cons_succ]
                          refine wpAnyH_take (i := 47) (v := ?_) rfl (by kernel_rfl) (by kernel_rfl) (by kernel_rfl) (fun _ _ _ h => h) (Or.inl ⟨by rfl, ?_⟩) (by assumption) ?_
                          rotate_left
                          · (intro wz hSw; (try dsimp only at hSw); go_simp; try with_reducible rfl)
                          try simp only [List.getElem_toArray, List.getElem_cons_succ, List.getElem_cons_zero, Act.put, List.setIfInBounds_toArray, List.set_cons_zero, List.set_cons_succ]
                          refine wpAnyH_take (i := 48) (v := ?_) rfl (by kernel_rfl) (by kernel_rfl) (by kernel_rfl) (fun _ _ _ h => h) (Or.inl ⟨by rfl, ?_⟩) (by assumption) ?_
                          rotate_left
                          · (intro wz hSw; (try dsimp only at hSw); have hqi := HQI.out; have hji := HJI.out; go_simp; try with_reducible rfl)
                          try simp only [List.getElem_toArray, List.getElem_cons_succ, List.getElem_cons_zero, Act.put, List.setIfInBounds_toArray, List.set_cons_zero, List.set_cons_succ]
                          refine wpAnyH_take (i := 49) (v := ?_) rfl (by kernel_rfl) (by kernel_rfl) (by kernel_rfl) (fun _ _ _ h => h) (Or.inl ⟨by rfl, ?_⟩) (by assumption) ?_
                          rotate_left
                          · (intro wz hSw; (try dsimp only at hSw); go_simp; try with_reducible rfl)
                          try simp only [List.getElem_toArray, List.getElem_cons_succ, List.getElem_cons_zero, Act.put, List.setIfInBounds_toArray, List.set_cons_zero, List.set_cons_succ]
                          refine wpAnyH_take (i := 50) (v := ?_) rfl (by kernel_rfl) (by kernel_rfl) (by kernel_rfl) (fun _ _ _ h => h) (Or.inl ⟨by rfl, ?_⟩) (by assumption) ?_
                          rotate_left
                          · (intro wz hSw; (try dsimp only at hSw); have hy9 := HG5.out wz (HO3.out.trans hSw); obtain ⟨-, y1, y2, y3, -⟩ := hy9; (try simp only at y1 y2 y3); go_simp; try with_reducible rfl)
                          try simp only [List.getElem_toArray, List.getElem_cons_succ, List.getElem_cons_zero, Act.put, List.setIfInBounds_toArray, List.set_cons_zero, List.set_cons_succ]
                          refine wpAnyH_take (i := 51) (v := ?_) rfl (by kernel_rfl) (by kernel_rfl) (by kernel_rfl) (fun _ _ _ h => h) (Or.inl ⟨by rfl, ?_⟩) (by assumption) ?_
                          rotate_left
                          · (intro wz hSw; (try dsimp only at hSw); have s1 := HS1.out wz (HO3.out.trans hSw); go_simp; try with_reducible rfl)
                          try simp only [List.getElem_toArray, List.getElem_cons_succ, List.getElem_cons_zero, Act.put, List.setIfInBounds_toArray, List.set_cons_zero, List.set_cons_succ]
                          refine wpAnyH_take (i := 52) (v := ?_) rfl (by kernel_rfl) (by kernel_rfl) (by kernel_rfl) (fun _ _ _ h => h) (Or.inl ⟨by rfl, ?_⟩) (by assumption) ?_
                          rotate_left
                          · (intro wz hSw; (try dsimp only at hSw); have t5 := HSB.out; go_simp; try with_reducible rfl)
                          try simp only [List.getElem_toArray, List.getElem_cons_succ, List.getElem_cons_zero, Act.put, List.setIfInBounds_toArray, List.set_cons_zero, List.set_cons_succ]
                          refine wpAnyH_take (i := 53) (v := ?_) rfl (by kernel_rfl) (by kernel_rfl) (by kernel_rfl) (fun _ _ _ h => h) (Or.inl ⟨by rfl, ?_⟩) (by assumption) ?_
                          rotate_left
                          · (intro wz hSw; (try dsimp only at hSw); go_simp; try with_reducible rfl)
                          try simp only [List.getElem_toArray, List.getElem_cons_succ, List.getElem_cons_zero, Act.put, List.setIfInBounds_toArray, List.set_cons_zero, List.set_cons_succ]
                          refine wpAnyH_done (by kernel_rfl) ?_ _
                          clear hHeld
                          cases e5 with
                          | false =>
                            have HNF2 := hide (show ∀ z, z < q + 1 → freeB l (matchN l j) ⟨k, a, p, b, nw⟩ z = false from nofree HNF.out (by rw [HFR.out, decide_eq_false (fun h => of_decide_eq_false HE5.out.symm h.2.2.2)]; rfl))
                            go_wp2_with fail
                            exact ⟨⟨q + 1, by omega, congrArg (Value.int .i64) (by omega), .inl ⟨HMD, HNF2⟩, HOD⟩, by simp only [intOf]; omega⟩
                          | true =>
                            have HFT := hide (show freeB l (matchN l j) ⟨k, a, p, b, nw⟩ q = true by rw [HFR.out, decide_eq_true (show k2 = 1 ∧ a2 = p ∧ p2 = a ∧ b2 = b from ⟨D1.out, D3.out, D4.out, of_decide_eq_true HE5.out.symm⟩), decide_eq_true D2.out]; rfl)
                            have HSF := hide (step_first HY.out HK.out hq HFT.out HNF.out)
                            have HLM := hide (show (matchN l j).length = l.length from HIV.out.1)
                            have HM0 := HMD.out
                            unfold OwnM at HM0
                            obtain ⟨gB3, hA3, hBg3, _, hcl3⟩ := own_out HM0 hj
                            obtain rfl : gB = gB3 := by injection hA3 with h; injection h
                            obtain ⟨cj3, fj3, sj3⟩ := hcl3 j hj
                            have HS3 := hide (sj3 (q : Int))
                            have HO4 := hide (HOD.out.setCell (p := ⟨gB, j, none⟩) (.inr HBG.out) (.int .i64 (q : Int)))
                            clear hcl3 sj3 hA3 hBg3 HM0
                            go_upto_region 15 with fail
                            generalize (wd.setCell ⟨gB, j, none⟩ (.int .i64 (q : Int))) = we at *
                            have HM0 := HS3.out
                            obtain ⟨gB3, hA3, hBg3, _, hcl3⟩ := own_out HM0 hj
                            obtain rfl : gB = gB3 := by injection hA3 with h; injection h
                            obtain ⟨cq3, fq3, sq3⟩ := hcl3 q (by omega)
                            have HS4 := hide (sq3 (j : Int))
                            have HO5 := hide (HO4.out.setCell (p := ⟨gB, q, none⟩) (.inr HBG.out) (.int .i64 (j : Int)))
                            clear hcl3 sq3 hA3 hBg3 HM0 cj3 fj3
                            have HM5 := hide (show OwnM B (some ⟨gB, 0, none⟩) i c (matchN l (j + 1)) (we.setCell ⟨gB, q, none⟩ (.int .i64 (j : Int))) by rw [HSF.out]; exact HS4.out)
                            have HP5 := hide (show 0 ≤ (matchN l (j + 1)).getD j 0 by
                              rw [HSF.out, List.getD_eq_getElem?_getD, List.getElem?_set_ne (by omega), List.getElem?_set_self (by rw [HLM.out, HLN.out]; exact hj), Option.getD_some]
                              omega)
                            go_wp2_with fail
                            exact ⟨⟨q + 1, by omega, congrArg (Value.int .i64) (by omega), .inr ⟨HM5, HP5⟩, HO5⟩, by simp only [intOf]; omega⟩
                · obtain rfl : q = j := by omega
                  have hqI : ¬ (q : Int) < (q : Int) := by omega
                  have HM4 := hide (show OwnM B (some ⟨gB, 0, none⟩) i c (matchN l (q + 1)) wr by rw [step_nobody HY.out HK.out HNF.out]; exact HM3.out)
                  go_wp2_with fail
                  exact ⟨⟨q + 1, by omega, congrArg (Value.int .i64) (by omega), HM4, HO3⟩, by simp only [intOf]; omega⟩
              · by_cases hq : q < j
                · have hqI : (q : Int) < (j : Int) := by omega
                  obtain ⟨gB2, hA2, _, _, hcl⟩ := own_out HM3.out hj
                  obtain rfl : gB = gB2 := by injection hA2 with h; injection h
                  obtain ⟨cj, -, -⟩ := hcl j hj
                  have hpos := HPOS.out
                  generalize (matchN l (j + 1)).getD j 0 = mj at *
                  have hmj : ¬ mj < 0 := by omega
                  clear hcl hpos hA2
                  go_wp2_with fail
                  exact ⟨⟨j + 1, by omega, congrArg (Value.int .i64) (by omega), HM3, HO3⟩, by simp only [intOf]; omega⟩
                · obtain rfl : q = j := by omega
                  have hqI : ¬ (q : Int) < (q : Int) := by omega
                  go_wp2_with fail
                  exact ⟨⟨q + 1, by omega, congrArg (Value.int .i64) (by omega), HM3, HO3⟩, by simp only [intOf]; omega⟩
end
end Go.Proofs.Ytahocmccaljplaa

/-
  Walks and plain words (texts Bkg). No condition beyond those that each theorem states.
-/
import Derived.Test.YtahocmccaljplaaQ07
namespace Go.Proofs.Ytahocmccaljplaa
section
open Go.RowKit Go.Deep Go.Maps Go.WideMaps

theorem RkFit.only {w w' : World} {r : Rc × Value} (h : RkFit w r) (ho : Only [] w w') : RkFit w' r := ⟨h.1.only ho (by simp), h.2⟩
theorem part_back {l : List Rc} {i k : Nat} (hi : i < l.length) (h : (matchM l).getD i 0 = (k : Int)) : (matchM l).getD k 0 = (i : Int) := by
  have hlt : i < (matchM l).length := by rw [matchM_len]; exact hi
  have e : (matchM l)[i]? = some (k : Int) := by rw [← h, List.getD_eq_getElem?_getD, List.getElem?_eq_getElem hlt]; rfl
  obtain ⟨q, h1, h2, h3⟩ := match_back l e (by omega)
  obtain rfl : k = q := by omega
  rw [List.getD_eq_getElem?_getD, h3]; rfl
theorem slow_less2 {l : List Rc} {i : Nat} {y z : Rc} {k : Nat} {x : Int} (hy : l[i]? = some y) (hm : (matchM l).getD i 0 = (k : Int)) (hk : y.k = 2) (hz : l[k]? = some z) (hs : slowN l i = (x, true)) (h : ¬ x < y.n - z.n) : slowN l (i + 1) = (x, true) := by
  rw [slow_less hy hm hk hz (by
    rw [hs]
    intro h'
    cases h' with
    | inl a => cases a
    | inr a => exact h a), hs]
def okR (r : Rc × Value) : Prop := r.1.b.length ≤ 100 ∧ 0 ≤ r.1.n ∧ r.1.n ≤ 1125899906842624
set_option maxRecDepth 100000 in
set_option maxHeartbeats 6400000 in
theorem law_long (w : World) (A : Option Addr) (cap : Nat) (n : Nat) (f t : Int) (hl : 60 < n) : Calls Try.prog 3 #[.slice A n cap, .int .i64 f, .int .i64 t] w (RetB true w) := by
  have HA := hide (awake19 w)
  unfold RetB at HA
  have hlI : (60 : Int) < n := by omega
  clear hl
  go_enter Try.func3, Try.ntmps3
  go_wp2_with (go_at_call 4; refine HA.out.mono ?_; rintro e w1 ⟨rfl, ho⟩; have HO := hide ho; clear ho)
  go_ret
  exact retb rfl HO.out
set_option maxRecDepth 100000 in
set_option maxHeartbeats 12800000 in
theorem law_main (w : World) (A : Option Addr) (cap : Nat) (L : List (Rc × Value)) (f t : Int) (hL : RdS 5 rkC w [] (.slice A L.length cap) L) (hfit : ∀ r ∈ L, RkFit w r) (hl : L.length ≤ 60) : Calls Try.prog 3 #[.slice A L.length cap, .int .i64 f, .int .i64 t] w (RetB true w) := by
  have HA := hide (awake19 w)
  unfold RetB at HA
  obtain ⟨n, hn⟩ : ∃ n, n = L.length := ⟨_, rfl⟩
  obtain ⟨l, hll⟩ : ∃ l, l = L.map Prod.fst := ⟨_, rfl⟩
  have HLN := hide (show l.length = n by rw [hll, hn, List.length_map])
  have HN := hide hn
  have HLL := hide hll
  rw [← hn] at hL hl ⊢
  have HL := hide hL
  have HFIT := hide hfit
  have hlI : ¬ (60 : Int) < n := by omega
  have HML := hide (show (matchM l).length = n by rw [matchM_len, HLN.out])
  clear hL hfit hn hll
  go_enter Try.func3, Try.ntmps3
  go_wp2_with (go_at_call 4; refine HA.out.mono ?_; rintro e w1 ⟨rfl, ho⟩; have HO := hide ho; clear ho)
  go_loopw [7] (fun iv wr => ∃ i : Nat, i ≤ n ∧ iv = .int .i64 i ∧ Hid (∀ q r, q < i → L[q]? = some r → okR r) ∧ Hid (Only [] w wr)) (fun iv _ => n - (intOf iv).toNat)
  case atStart => exact ⟨0, Nat.zero_le _, rfl, hide (fun q r hq => absurd hq (Nat.not_lt_zero q)), HO⟩
  case round =>
    obtain ⟨i, hin, rfl, HOK, HO⟩ := hrel
    by_cases hi : i < n
    case pos =>
      have hiI : (i : Int) < (n : Int) := by omega
      obtain ⟨r, hr⟩ : ∃ r, L[i]? = some r := ⟨_, List.getElem?_eq_getElem (by rw [← HN.out]; exact hi)⟩
      obtain ⟨⟨k, a, p, b, nw⟩, v⟩ := r
      obtain ⟨g, o, hA, _, hglt⟩ := HL.out.addr (by have := HN.out; omega)
      subst hA
      obtain ⟨hrd, -⟩ := HFIT.out _ (List.mem_of_getElem? hr)
      simp only at hrd
      obtain ⟨Av, cv, hv, _, _⟩ := hrd.formb
      subst hv
      obtain ⟨-, -, -, c3, c4⟩ := rec_get hr (HL.out.only HO.out (by simp))
      simp only at c3 c4
      obtain ⟨nb, hnb⟩ : ∃ q, q = b.length := ⟨_, rfl⟩
      have HR := hide hr
      clear hrd hr
      rw [← hnb] at c3
      by_cases e1 : 100 < nb
      · have e1I : (100 : Int) < nb := by omega
        clear hnb
        go_wp2_with fail
        go_ret
        exact retb rfl HO.out
      · have e1I : ¬ (100 : Int) < nb := by omega
        by_cases e2 : nw < 0
        · clear hnb
          go_wp2_with fail
          go_ret
          exact retb rfl HO.out
        · by_cases e3 : 1125899906842624 < nw
          · clear hnb
            go_wp2_with fail
            go_ret
            exact retb rfl HO.out
          · have HOK2 := hide (show ∀ q r, q < i + 1 → L[q]? = some r → okR r by
              intro q r hq hqr
              by_cases e : q = i
              · rw [e, HR.out] at hqr
                injection hqr with hqr
                rw [← hqr]
                exact ⟨by simp only; omega, by simp only; omega, by simp only; omega⟩
              · exact HOK.out q r (by omega) hqr)
            clear hnb
            go_wp2_with fail
            exact ⟨⟨i + 1, by omega, congrArg (Value.int .i64) (by omega), HOK2, HO⟩, by simp only [intOf]; omega⟩
    case neg =>
      obtain rfl : i = n := by omega
      have hnI : ¬ (i : Int) < (i : Int) := by omega
      have hall : ∀ r ∈ L, okR r := by
        intro r hr
        obtain ⟨q, hq, hqr⟩ := List.mem_iff_getElem.1 hr
        exact HOK.out q r (by rw [HN.out]; exact hq) (by rw [List.getElem?_eq_getElem hq, hqr])
      have HALL := hide hall
      clear hall HOK
      have KAS := hide (fun W (h : Only [] w W) => as_any W A cap L (by rw [← HN.out]; exact HL.out.only h (by simp)) (fun r hr => (HFIT.out r hr).only h) (by rw [← HN.out]; exact hl))
      have KM := hide (fun W (h : Only [] w W) => Match_any W A cap L (by rw [← HN.out]; exact HL.out.only h (by simp)) (fun r hr => (HFIT.out r hr).only h) (by rw [← HN.out]; exact hl) (fun r hr => (HALL.out r hr).1))
      have KST := hide (fun W (h : Only [] w W) => strange_any W A cap L (by rw [← HN.out]; exact HL.out.only h (by simp)) (fun r hr => (HFIT.out r hr).only h) (by rw [← HN.out]; exact hl) (fun r hr => (HALL.out r hr).1))
      have KLO := hide (fun W (h : Only [] w W) => lost_any W A cap L (by rw [← HN.out]; exact HL.out.only h (by simp)) (fun r hr => (HFIT.out r hr).only h) (by rw [← HN.out]; exact hl) (fun r hr => (HALL.out r hr).1))
      have KSL := hide (fun W (h : Only [] w W) => slowest_any W A cap L (by rw [← HN.out]; exact HL.out.only h (by simp)) (fun r hr => (HFIT.out r hr).only h) (by rw [← HN.out]; exact hl) (fun r hr => (HALL.out r hr).1) (fun r hr => (HALL.out r hr).2))
      have KFL := hide (fun W (h : Only [] w W) => flow_any W A cap L f t (by rw [← HN.out]; exact HL.out.only h (by simp)) (fun r hr => (HFIT.out r hr).only h) (by rw [← HN.out]; exact hl) (fun r hr => (HALL.out r hr).1))
      have KMR := hide (fun W (h : Only [] w W) A8 c8 (h8 : RdS 5 rkC W [] (.slice A8 L.length c8) L) => MatchR_any W A8 c8 L h8 (fun r hr => (HFIT.out r hr).only h) (by rw [← HN.out]; exact hl))
      have KA1 := hide (fun W (h : Only [] w W) A8 c8 (h8 : RdS 5 rkC W [] (.slice A8 L.length c8) L) => AloneR_any W A8 c8 L 1 h8 (fun r hr => (HFIT.out r hr).only h) (by rw [← HN.out]; exact hl))
      have KA2 := hide (fun W (h : Only [] w W) A8 c8 (h8 : RdS 5 rkC W [] (.slice A8 L.length c8) L) => AloneR_any W A8 c8 L 2 h8 (fun r hr => (HFIT.out r hr).only h) (by rw [← HN.out]; exact hl))
      unfold AsPost at KAS
      unfold MatchPost at KM KMR
      unfold IntsPost at KST KLO KA1 KA2
      unfold SlowPost at KSL
      unfold FlPost at KFL
      rw [← HN.out, ← HLL.out] at KM KST KLO KSL KFL
      rw [← HN.out] at KAS
      simp only [← HN.out, ← HLL.out] at KMR KA1 KA2
      have HLI := hide (fun kd => Nat.le_trans (aloneI_len l kd i) (show i ≤ 1000 by omega))
      go_upto_region 13 with (first
        | (go_at_call 5; refine (KAS.out _ HO.out).mono ?_; rintro e w2 ⟨v8, rfl, h8, ho⟩; obtain ⟨A8, c8, rfl, _, _⟩ := h8.form; rw [← HN.out] at h8 ⊢; have HIN := hide h8; replace HO := hide (HO.out.trans ho); clear ho h8 KAS)
        | (go_at_call 6; refine (KM.out _ HO.out).mono ?_; rintro e w3 ⟨v9, rfl, h9, ho⟩; obtain ⟨A9, c9, rfl, _, _⟩ := h9.formi; rw [HML.out] at h9 ⊢; have HM9 := hide h9; replace HIN := hide (HIN.out.only ho (by simp)); replace HO := hide (HO.out.trans ho); clear ho h9 KM)
        | (go_at_call 7; refine (KMR.out _ HO.out _ _ HIN.out).mono ?_; rintro e w4 ⟨v10, rfl, h10, ho⟩; obtain ⟨A10, c10, rfl, _, _⟩ := h10.formi; rw [HML.out] at h10 ⊢; have HM10 := hide h10; replace HIN := hide (HIN.out.only ho (by simp)); replace HM9 := hide (HM9.out.only ho (by simp)); replace HO := hide (HO.out.trans ho); clear ho h10 KMR))
      go_wp2_with (first
        | (go_at_call 8; (with_reducible refine (same_ints _ _ _ (matchM l) HM9.out HM10.out (by rw [HML.out]; omega)).mono ?_); unfold RetB; rintro e w5 ⟨rfl, ho⟩; (try (replace HIN := hide (HIN.out.only ho (by simp)))); (try (replace HM9 := hide (HM9.out.only ho (by simp)))); (try (replace HM10 := hide (HM10.out.only ho (by simp)))); (try (replace HS1 := hide (HS1.out.only ho (by simp)))); (try (replace HS2 := hide (HS2.out.only ho (by simp)))); (try (replace HL1 := hide (HL1.out.only ho (by simp)))); (try (replace HL2 := hide (HL2.out.only ho (by simp)))); replace HO := hide (HO.out.trans ho); clear ho)
        | (go_at_call 8; (with_reducible refine (same_ints _ _ _ (aloneI l 2 i) HS1.out HS2.out (HLI.out 2)).mono ?_); unfold RetB; rintro e w5 ⟨rfl, ho⟩; (try (replace HIN := hide (HIN.out.only ho (by simp)))); (try (replace HM9 := hide (HM9.out.only ho (by simp)))); (try (replace HM10 := hide (HM10.out.only ho (by simp)))); (try (replace HS1 := hide (HS1.out.only ho (by simp)))); (try (replace HS2 := hide (HS2.out.only ho (by simp)))); (try (replace HL1 := hide (HL1.out.only ho (by simp)))); (try (replace HL2 := hide (HL2.out.only ho (by simp)))); replace HO := hide (HO.out.trans ho); clear ho)
        | (go_at_call 8; (with_reducible refine (same_ints _ _ _ (aloneI l 1 i) HL1.out HL2.out (HLI.out 1)).mono ?_); unfold RetB; rintro e w5 ⟨rfl, ho⟩; (try (replace HIN := hide (HIN.out.only ho (by simp)))); (try (replace HM9 := hide (HM9.out.only ho (by simp)))); (try (replace HM10 := hide (HM10.out.only ho (by simp)))); (try (replace HS1 := hide (HS1.out.only ho (by simp)))); (try (replace HS2 := hide (HS2.out.only ho (by simp)))); (try (replace HL1 := hide (HL1.out.only ho (by simp)))); (try (replace HL2 := hide (HL2.out.only ho (by simp)))); replace HO := hide (HO.out.trans ho); clear ho)
        | (go_at_call 9; refine (KST.out _ HO.out).mono ?_; rintro e w6 ⟨v1, rfl, h1, ho⟩; (try (replace HIN := hide (HIN.out.only ho (by simp)))); (try (replace HM9 := hide (HM9.out.only ho (by simp)))); (try (replace HM10 := hide (HM10.out.only ho (by simp)))); (try (replace HS1 := hide (HS1.out.only ho (by simp)))); (try (replace HS2 := hide (HS2.out.only ho (by simp)))); (try (replace HL1 := hide (HL1.out.only ho (by simp)))); (try (replace HL2 := hide (HL2.out.only ho (by simp)))); replace HO := hide (HO.out.trans ho); clear ho; have HS1 := hide h1; clear h1)
        | (go_at_call 11; refine (KLO.out _ HO.out).mono ?_; rintro e w6 ⟨v2, rfl, h1, ho⟩; (try (replace HIN := hide (HIN.out.only ho (by simp)))); (try (replace HM9 := hide (HM9.out.only ho (by simp)))); (try (replace HM10 := hide (HM10.out.only ho (by simp)))); (try (replace HS1 := hide (HS1.out.only ho (by simp)))); (try (replace HS2 := hide (HS2.out.only ho (by simp)))); (try (replace HL1 := hide (HL1.out.only ho (by simp)))); (try (replace HL2 := hide (HL2.out.only ho (by simp)))); replace HO := hide (HO.out.trans ho); clear ho; have HL1 := hide h1; clear h1)
        | (go_at_call 10; (with_reducible refine (KA2.out _ HO.out _ _ HIN.out).mono ?_); rintro e w7 ⟨v3, rfl, h1, ho⟩; (try (replace HIN := hide (HIN.out.only ho (by simp)))); (try (replace HM9 := hide (HM9.out.only ho (by simp)))); (try (replace HM10 := hide (HM10.out.only ho (by simp)))); (try (replace HS1 := hide (HS1.out.only ho (by simp)))); (try (replace HS2 := hide (HS2.out.only ho (by simp)))); (try (replace HL1 := hide (HL1.out.only ho (by simp)))); (try (replace HL2 := hide (HL2.out.only ho (by simp)))); replace HO := hide (HO.out.trans ho); clear ho; have HS2 := hide h1; clear h1)
        | (go_at_call 10; (with_reducible refine (KA1.out _ HO.out _ _ HIN.out).mono ?_); rintro e w7 ⟨v4, rfl, h1, ho⟩; (try (replace HIN := hide (HIN.out.only ho (by simp)))); (try (replace HM9 := hide (HM9.out.only ho (by simp)))); (try (replace HM10 := hide (HM10.out.only ho (by simp)))); (try (replace HS1 := hide (HS1.out.only ho (by simp)))); (try (replace HS2 := hide (HS2.out.only ho (by simp)))); (try (replace HL1 := hide (HL1.out.only ho (by simp)))); (try (replace HL2 := hide (HL2.out.only ho (by simp)))); replace HO := hide (HO.out.trans ho); clear ho; have HL2 := hide h1; clear h1))
      clear HS1 HS2 HL1 HL2 KST KLO KA1 KA2 HIN HLI
      have HBL := hide (flow_le (l := l) f t (by rw [HLL.out]; intro y hy; obtain ⟨r, hr, rfl⟩ := List.mem_map.1 hy; exact (HALL.out r hr).1))
      rename World => wb0
      go_loopw [16, 11, 12, 13, 14, 15] (fun iv a1 a2 a3 a4 a5 wr => ∃ (j : Nat) (x : Int) (b0 : Bool) (x1 x2 x3 : Nat), j ≤ i ∧ iv = .int .i64 j ∧ a1 = .int .i64 x ∧ a2 = .bool b0 ∧ a3 = .int .i64 x1 ∧ a4 = .int .i64 x2 ∧ a5 = .int .i64 x3 ∧ Hid (slowN l j = (x, b0)) ∧ Hid (flowN l f t j = (x1, x2, x3)) ∧ Hid (Only [] wb0 wr)) (fun iv _ _ _ _ _ _ => i - (intOf iv).toNat)
      case atStart => exact ⟨0, 0, false, 0, 0, 0, Nat.zero_le _, rfl, rfl, rfl, rfl, rfl, rfl, hide rfl, hide rfl, hide (Only.refl _ _)⟩
      case round =>
        obtain ⟨j, x, b0, x1, x2, x3, hjn, rfl, rfl, rfl, rfl, rfl, rfl, HS, HF, HOX⟩ := hrel
        by_cases hj : j < i
        case neg =>
          obtain rfl : j = i := by omega
          rw [HS.out] at KSL
          rw [HF.out] at KFL
          have HOT := hide (HO.out.trans HOX.out)
          go_wp2_with (first
            | (go_at_call 12; refine (KSL.out _ HOT.out).mono ?_; rintro e w8 ⟨rfl, ho⟩; replace HOT := hide (HOT.out.trans ho); clear ho)
            | (go_at_call 13; refine (KFL.out _ HOT.out).mono ?_; rintro e w9 ⟨rfl, ho⟩; replace HOT := hide (HOT.out.trans ho); clear ho))
          go_ret
          exact retb rfl HOT.out
        case pos =>
          have hjI : (j : Int) < (i : Int) := by omega
          obtain ⟨r, hr⟩ : ∃ r, L[j]? = some r := ⟨_, List.getElem?_eq_getElem (by rw [← HN.out]; exact hj)⟩
          obtain ⟨⟨k, a, p, b, nw⟩, v⟩ := r
          have hmem := List.mem_of_getElem? hr
          have HY := hide (show l[j]? = some ⟨k, a, p, b, nw⟩ by rw [HLL.out, List.getElem?_map, hr]; rfl)
          obtain ⟨g, o, hA, _, hglt⟩ := HL.out.addr (by have := HN.out; omega)
          subst hA
          obtain ⟨hrd, -⟩ := HFIT.out _ hmem
          simp only at hrd
          obtain ⟨Av, cv, hv, _, _⟩ := hrd.formb
          subst hv
          have hok := HALL.out _ hmem
          obtain ⟨c0, c1, c2, c3, c4⟩ := rec_get hr ((HL.out.only HO.out (by simp)).only HOX.out (by simp))
          simp only at c0 c1 c2 c3 c4
          obtain ⟨nb, hnb⟩ : ∃ q, q = b.length := ⟨_, rfl⟩
          rw [← hnb] at c3
          have HNB := hide hnb
          have HOKR := hide hok
          have hnb100 : nb ≤ 100 := by rw [hnb]; exact hok.1
          clear hnb hok hrd hmem hr
          obtain ⟨g9, o9, h9, m9⟩ := match_cell (HM9.out.only HOX.out (by simp)) (show j < l.length by rw [HLN.out]; exact hj)
          obtain ⟨g0, o0, h0, m0⟩ := match_cell (HM10.out.only HOX.out (by simp)) (show j < l.length by rw [HLN.out]; exact hj)
          subst h9 h0
          obtain ⟨mi, hmi⟩ : ∃ m, m = (matchM l).getD j 0 := ⟨_, rfl⟩
          rw [← hmi] at m9 m0
          have HMI := hide hmi
          clear hmi
          obtain ⟨le1, le2, le3⟩ := HBL.out j
          rw [HF.out] at le1 le2 le3
          simp only at le1 le2 le3
          have hb1 : x1 ≤ 60 := by omega
          have hb2 : x2 ≤ 60 := by omega
          have hb3 : x3 ≤ 6000 := by omega
          clear le1 le2 le3
          have tjj : ((j : Int) != (j : Int)) = false := by simp
          by_cases hk : k = 1
          · as_aux_lemma =>
              have t1 : (k == 1) = true := by rw [beq_iff_eq]; exact hk
              have HK := hide hk
              have HK2 := hide (show ¬ k = 2 by omega)
              have t2 : (k == 2) = false := by rw [beq_eq_false_iff_ne]; exact HK2.out
              clear hk
              by_cases q1 : a = f
              · have t3 : (a == f) = true := by rw [beq_iff_eq]; exact q1
                have HQ1 := hide q1
                clear q1
                by_cases q2 : p = t
                · have t4 : (p == t) = true := by rw [beq_iff_eq]; exact q2
                  have HQ2 := hide q2
                  clear q2
                  by_cases hm : mi < 0
                  · have h1 : ¬ 0 ≤ mi := by omega
                    as_aux_lemma =>
                      have HS2 := hide (show slowN l (j + 1) = (x, b0) by rw [slow_skip HY.out (fun h => HK2.out h.2), HS.out])
                      have HF2 := hide (show flowN l f t (j + 1) = (x1 + 1, x2, x3) by rw [flow_take HY.out ⟨HK.out, HQ1.out, HQ2.out⟩, HF.out])
                      clear HS HF
                      go_wp2_with fail
                      exact ⟨⟨j + 1, x, b0, x1 + 1, x2, x3, by omega, congrArg (Value.int .i64) (by omega), rfl, rfl, congrArg (Value.int .i64) (by omega), rfl, rfl, HS2, HF2, HOX⟩, by simp only [intOf]; omega⟩
                  · have h1 : 0 ≤ mi := by omega
                    obtain ⟨q, hq, hqn⟩ := match_part (show j < l.length by rw [HLN.out]; exact hj) (by rw [← HMI.out]; omega)
                    have hpb := part_back (show j < l.length by rw [HLN.out]; exact hj) hq
                    obtain rfl : mi = (q : Int) := by rw [HMI.out]; exact hq
                    clear hq
                    obtain ⟨g8, o8, h8, m8⟩ := match_cell (HM9.out.only HOX.out (by simp)) hqn
                    injection h8 with h8
                    injection h8 with h8 h8b
                    subst h8 h8b
                    rw [hpb] at m8
                    have hqI : (q : Int) < (i : Int) := by have := HLN.out; omega
                    clear hpb
                    as_aux_lemma =>
                      have HS2 := hide (show slowN l (j + 1) = (x, b0) by rw [slow_skip HY.out (fun h => HK2.out h.2), HS.out])
                      have HF2 := hide (show flowN l f t (j + 1) = (x1 + 1, x2, x3) by rw [flow_take HY.out ⟨HK.out, HQ1.out, HQ2.out⟩, HF.out])
                      clear HS HF
                      go_wp2_with fail
                      exact ⟨⟨j + 1, x, b0, x1 + 1, x2, x3, by omega, congrArg (Value.int .i64) (by omega), rfl, rfl, congrArg (Value.int .i64) (by omega), rfl, rfl, HS2, HF2, HOX⟩, by simp only [intOf]; omega⟩
                · have t4 : (p == t) = false := by rw [beq_eq_false_iff_ne]; exact q2
                  have HQ2 := hide q2
                  clear q2
                  by_cases hm : mi < 0
                  · have h1 : ¬ 0 ≤ mi := by omega
                    as_aux_lemma =>
                      have HS2 := hide (show slowN l (j + 1) = (x, b0) by rw [slow_skip HY.out (fun h => HK2.out h.2), HS.out])
                      have HF2 := hide (show flowN l f t (j + 1) = (x1, x2, x3) by rw [flow_skip HY.out (fun h => HQ2.out h.2.2) (fun h => HK2.out h.1), HF.out])
                      clear HS HF
                      go_wp2_with fail
                      exact ⟨⟨j + 1, x, b0, x1, x2, x3, by omega, congrArg (Value.int .i64) (by omega), rfl, rfl, rfl, rfl, rfl, HS2, HF2, HOX⟩, by simp only [intOf]; omega⟩
                  · have h1 : 0 ≤ mi := by omega
                    obtain ⟨q, hq, hqn⟩ := match_part (show j < l.length by rw [HLN.out]; exact hj) (by rw [← HMI.out]; omega)
                    have hpb := part_back (show j < l.length by rw [HLN.out]; exact hj) hq
                    obtain rfl : mi = (q : Int) := by rw [HMI.out]; exact hq
                    clear hq
                    obtain ⟨g8, o8, h8, m8⟩ := match_cell (HM9.out.only HOX.out (by simp)) hqn
                    injection h8 with h8
                    injection h8 with h8 h8b
                    subst h8 h8b
                    rw [hpb] at m8
                    have hqI : (q : Int) < (i : Int) := by have := HLN.out; omega
                    clear hpb
                    as_aux_lemma =>
                      have HS2 := hide (show slowN l (j + 1) = (x, b0) by rw [slow_skip HY.out (fun h => HK2.out h.2), HS.out])
                      have HF2 := hide (show flowN l f t (j + 1) = (x1, x2, x3) by rw [flow_skip HY.out (fun h => HQ2.out h.2.2) (fun h => HK2.out h.1), HF.out])
                      clear HS HF
                      go_wp2_with fail
                      exact ⟨⟨j + 1, x, b0, x1, x2, x3, by omega, congrArg (Value.int .i64) (by omega), rfl, rfl, rfl, rfl, rfl, HS2, HF2, HOX⟩, by simp only [intOf]; omega⟩
              · have t3 : (a == f) = false := by rw [beq_eq_false_iff_ne]; exact q1
                have HQ1 := hide q1
                clear q1
                by_cases hm : mi < 0
                · have h1 : ¬ 0 ≤ mi := by omega
                  as_aux_lemma =>
                    have HS2 := hide (show slowN l (j + 1) = (x, b0) by rw [slow_skip HY.out (fun h => HK2.out h.2), HS.out])
                    have HF2 := hide (show flowN l f t (j + 1) = (x1, x2, x3) by rw [flow_skip HY.out (fun h => HQ1.out h.2.1) (fun h => HK2.out h.1), HF.out])
                    clear HS HF
                    go_wp2_with fail
                    exact ⟨⟨j + 1, x, b0, x1, x2, x3, by omega, congrArg (Value.int .i64) (by omega), rfl, rfl, rfl, rfl, rfl, HS2, HF2, HOX⟩, by simp only [intOf]; omega⟩
                · have h1 : 0 ≤ mi := by omega
                  obtain ⟨q, hq, hqn⟩ := match_part (show j < l.length by rw [HLN.out]; exact hj) (by rw [← HMI.out]; omega)
                  have hpb := part_back (show j < l.length by rw [HLN.out]; exact hj) hq
                  obtain rfl : mi = (q : Int) := by rw [HMI.out]; exact hq
                  clear hq
                  obtain ⟨g8, o8, h8, m8⟩ := match_cell (HM9.out.only HOX.out (by simp)) hqn
                  injection h8 with h8
                  injection h8 with h8 h8b
                  subst h8 h8b
                  rw [hpb] at m8
                  have hqI : (q : Int) < (i : Int) := by have := HLN.out; omega
                  clear hpb
                  as_aux_lemma =>
                    have HS2 := hide (show slowN l (j + 1) = (x, b0) by rw [slow_skip HY.out (fun h => HK2.out h.2), HS.out])
                    have HF2 := hide (show flowN l f t (j + 1) = (x1, x2, x3) by rw [flow_skip HY.out (fun h => HQ1.out h.2.1) (fun h => HK2.out h.1), HF.out])
                    clear HS HF
                    go_wp2_with fail
                    exact ⟨⟨j + 1, x, b0, x1, x2, x3, by omega, congrArg (Value.int .i64) (by omega), rfl, rfl, rfl, rfl, rfl, HS2, HF2, HOX⟩, by simp only [intOf]; omega⟩
          · by_cases hk2 : k = 2
            · as_aux_lemma =>
                have t2 : (k == 2) = true := by rw [beq_iff_eq]; exact hk2
                have HK := hide hk2
                have HK1 := hide (show ¬ k = 1 by omega)
                have t1 : (k == 1) = false := by rw [beq_eq_false_iff_ne]; exact HK1.out
                clear hk2 hk
                by_cases q1 : a = t
                · have t3 : (a == t) = true := by rw [beq_iff_eq]; exact q1
                  have HQ1 := hide q1
                  clear q1
                  by_cases q2 : p = f
                  · have t4 : (p == f) = true := by rw [beq_iff_eq]; exact q2
                    have HQ2 := hide q2
                    clear q2
                    by_cases hm : mi < 0
                    · have HM := hide hm
                      have h1 : ¬ 0 ≤ mi := by omega
                      as_aux_lemma =>
                        have HS2 := hide (show slowN l (j + 1) = (x, b0) by rw [slow_skip HY.out (fun h => by have h1 := h.1; rw [← HMI.out] at h1; have := HM.out; omega), HS.out])
                        have HF2 := hide (show flowN l f t (j + 1) = (x1, x2 + 1, x3 + nb) by rw [flow_put HY.out ⟨HK.out, HQ1.out, HQ2.out⟩, HF.out, HNB.out])
                        clear HS HF
                        go_wp2_with fail
                        exact ⟨⟨j + 1, x, b0, x1, x2 + 1, x3 + nb, by omega, congrArg (Value.int .i64) (by omega), rfl, rfl, rfl, congrArg (Value.int .i64) (by omega), congrArg (Value.int .i64) (by omega), HS2, HF2, HOX⟩, by simp only [intOf]; omega⟩
                    · as_aux_lemma =>
                        have h1 : 0 ≤ mi := by omega
                        obtain ⟨q, hq, hqn⟩ := match_part (show j < l.length by rw [HLN.out]; exact hj) (by rw [← HMI.out]; omega)
                        have hpb := part_back (show j < l.length by rw [HLN.out]; exact hj) hq
                        obtain rfl : mi = (q : Int) := by rw [HMI.out]; exact hq
                        clear hq
                        obtain ⟨g8, o8, h8, m8⟩ := match_cell (HM9.out.only HOX.out (by simp)) hqn
                        injection h8 with h8
                        injection h8 with h8 h8b
                        subst h8 h8b
                        rw [hpb] at m8
                        have hqI : (q : Int) < (i : Int) := by have := HLN.out; omega
                        clear hpb
                        obtain ⟨r2, hr2⟩ : ∃ r, L[q]? = some r := ⟨_, List.getElem?_eq_getElem (by rw [← HN.out, ← HLN.out]; exact hqn)⟩
                        obtain ⟨⟨k2, a2, p2, b2, n2⟩, v2⟩ := r2
                        have HZ := hide (show l[q]? = some ⟨k2, a2, p2, b2, n2⟩ by rw [HLL.out, List.getElem?_map, hr2]; rfl)
                        obtain ⟨-, -, -, -, d4⟩ := rec_get hr2 ((HL.out.only HO.out (by simp)).only HOX.out (by simp))
                        have sn := (HALL.out _ (List.mem_of_getElem? hr2)).2
                        have tn := HOKR.out.2
                        simp only at d4 sn tn
                        have hsub : IntKind.i64.wrap (nw - n2) = nw - n2 := by rw [IntWalk.i64_in _ (by omega)]
                        clear hr2 sn tn
                        have HMQ := hide HMI.out.symm
                        go_upto_region 23 with fail
                        go_quiet (fail)
                        obtain ⟨d, hd⟩ : ∃ d, d = nw - n2 := ⟨_, rfl⟩
                        rw [← hd] at hsub ⊢
                        have HD := hide hd
                        clear hd hsub
                        have HOX2 := hide (HOX.out.drewN nq)
                        cases b0 with
                        | false =>
                          as_aux_lemma =>
                            have HS2 := hide (show slowN l (j + 1) = (d, true) by rw [slow_more HY.out HMQ.out HK.out HZ.out (.inl (by rw [HS.out])), HD.out])
                            have HF2 := hide (show flowN l f t (j + 1) = (x1, x2 + 1, x3 + nb) by rw [flow_put HY.out ⟨HK.out, HQ1.out, HQ2.out⟩, HF.out, HNB.out])
                            clear HS HF
                            go_wp2_with fail
                            exact ⟨⟨j + 1, d, true, x1, x2 + 1, x3 + nb, by omega, congrArg (Value.int .i64) (by omega), rfl, rfl, rfl, congrArg (Value.int .i64) (by omega), congrArg (Value.int .i64) (by omega), HS2, HF2, HOX2⟩, by simp only [intOf]; omega⟩
                        | true =>
                          by_cases hx : x < d
                          · as_aux_lemma =>
                              have HS2 := hide (show slowN l (j + 1) = (d, true) by rw [slow_more HY.out HMQ.out HK.out HZ.out (.inr (by rw [HS.out]; show x < nw - n2; rw [← HD.out]; exact hx)), HD.out])
                              have HF2 := hide (show flowN l f t (j + 1) = (x1, x2 + 1, x3 + nb) by rw [flow_put HY.out ⟨HK.out, HQ1.out, HQ2.out⟩, HF.out, HNB.out])
                              clear HS HF
                              go_wp2_with fail
                              exact ⟨⟨j + 1, d, true, x1, x2 + 1, x3 + nb, by omega, congrArg (Value.int .i64) (by omega), rfl, rfl, rfl, congrArg (Value.int .i64) (by omega), congrArg (Value.int .i64) (by omega), HS2, HF2, HOX2⟩, by simp only [intOf]; omega⟩
                          · as_aux_lemma =>
                              have HS2 := hide (show slowN l (j + 1) = (x, true) by exact slow_less2 HY.out HMQ.out HK.out HZ.out HS.out (fun h => hx (by rw [HD.out]; exact h)))
                              have HF2 := hide (show flowN l f t (j + 1) = (x1, x2 + 1, x3 + nb) by rw [flow_put HY.out ⟨HK.out, HQ1.out, HQ2.out⟩, HF.out, HNB.out])
                              clear HS HF
                              go_wp2_with fail
                              exact ⟨⟨j + 1, x, true, x1, x2 + 1, x3 + nb, by omega, congrArg (Value.int .i64) (by omega), rfl, rfl, rfl, congrArg (Value.int .i64) (by omega), congrArg (Value.int .i64) (by omega), HS2, HF2, HOX2⟩, by simp only [intOf]; omega⟩
                  · have t4 : (p == f) = false := by rw [beq_eq_false_iff_ne]; exact q2
                    have HQ2 := hide q2
                    clear q2
                    by_cases hm : mi < 0
                    · have HM := hide hm
                      have h1 : ¬ 0 ≤ mi := by omega
                      as_aux_lemma =>
                        have HS2 := hide (show slowN l (j + 1) = (x, b0) by rw [slow_skip HY.out (fun h => by have h1 := h.1; rw [← HMI.out] at h1; have := HM.out; omega), HS.out])
                        have HF2 := hide (show flowN l f t (j + 1) = (x1, x2, x3) by rw [flow_skip HY.out (fun h => HK1.out h.1) (fun h => HQ2.out h.2.2), HF.out])
                        clear HS HF
                        go_wp2_with fail
                        exact ⟨⟨j + 1, x, b0, x1, x2, x3, by omega, congrArg (Value.int .i64) (by omega), rfl, rfl, rfl, rfl, rfl, HS2, HF2, HOX⟩, by simp only [intOf]; omega⟩
                    · as_aux_lemma =>
                        have h1 : 0 ≤ mi := by omega
                        obtain ⟨q, hq, hqn⟩ := match_part (show j < l.length by rw [HLN.out]; exact hj) (by rw [← HMI.out]; omega)
                        have hpb := part_back (show j < l.length by rw [HLN.out]; exact hj) hq
                        obtain rfl : mi = (q : Int) := by rw [HMI.out]; exact hq
                        clear hq
                        obtain ⟨g8, o8, h8, m8⟩ := match_cell (HM9.out.only HOX.out (by simp)) hqn
                        injection h8 with h8
                        injection h8 with h8 h8b
                        subst h8 h8b
                        rw [hpb] at m8
                        have hqI : (q : Int) < (i : Int) := by have := HLN.out; omega
                        clear hpb
                        obtain ⟨r2, hr2⟩ : ∃ r, L[q]? = some r := ⟨_, List.getElem?_eq_getElem (by rw [← HN.out, ← HLN.out]; exact hqn)⟩
                        obtain ⟨⟨k2, a2, p2, b2, n2⟩, v2⟩ := r2
                        have HZ := hide (show l[q]? = some ⟨k2, a2, p2, b2, n2⟩ by rw [HLL.out, List.getElem?_map, hr2]; rfl)
                        obtain ⟨-, -, -, -, d4⟩ := rec_get hr2 ((HL.out.only HO.out (by simp)).only HOX.out (by simp))
                        have sn := (HALL.out _ (List.mem_of_getElem? hr2)).2
                        have tn := HOKR.out.2
                        simp only at d4 sn tn
                        have hsub : IntKind.i64.wrap (nw - n2) = nw - n2 := by rw [IntWalk.i64_in _ (by omega)]
                        clear hr2 sn tn
                        have HMQ := hide HMI.out.symm
                        go_upto_region 23 with fail
                        go_quiet (fail)
                        obtain ⟨d, hd⟩ : ∃ d, d = nw - n2 := ⟨_, rfl⟩
                        rw [← hd] at hsub ⊢
                        have HD := hide hd
                        clear hd hsub
                        have HOX2 := hide (HOX.out.drewN nq)
                        cases b0 with
                        | false =>
                          as_aux_lemma =>
                            have HS2 := hide (show slowN l (j + 1) = (d, true) by rw [slow_more HY.out HMQ.out HK.out HZ.out (.inl (by rw [HS.out])), HD.out])
                            have HF2 := hide (show flowN l f t (j + 1) = (x1, x2, x3) by rw [flow_skip HY.out (fun h => HK1.out h.1) (fun h => HQ2.out h.2.2), HF.out])
                            clear HS HF
                            go_wp2_with fail
                            exact ⟨⟨j + 1, d, true, x1, x2, x3, by omega, congrArg (Value.int .i64) (by omega), rfl, rfl, rfl, rfl, rfl, HS2, HF2, HOX2⟩, by simp only [intOf]; omega⟩
                        | true =>
                          by_cases hx : x < d
                          · as_aux_lemma =>
                              have HS2 := hide (show slowN l (j + 1) = (d, true) by rw [slow_more HY.out HMQ.out HK.out HZ.out (.inr (by rw [HS.out]; show x < nw - n2; rw [← HD.out]; exact hx)), HD.out])
                              have HF2 := hide (show flowN l f t (j + 1) = (x1, x2, x3) by rw [flow_skip HY.out (fun h => HK1.out h.1) (fun h => HQ2.out h.2.2), HF.out])
                              clear HS HF
                              go_wp2_with fail
                              exact ⟨⟨j + 1, d, true, x1, x2, x3, by omega, congrArg (Value.int .i64) (by omega), rfl, rfl, rfl, rfl, rfl, HS2, HF2, HOX2⟩, by simp only [intOf]; omega⟩
                          · as_aux_lemma =>
                              have HS2 := hide (show slowN l (j + 1) = (x, true) by exact slow_less2 HY.out HMQ.out HK.out HZ.out HS.out (fun h => hx (by rw [HD.out]; exact h)))
                              have HF2 := hide (show flowN l f t (j + 1) = (x1, x2, x3) by rw [flow_skip HY.out (fun h => HK1.out h.1) (fun h => HQ2.out h.2.2), HF.out])
                              clear HS HF
                              go_wp2_with fail
                              exact ⟨⟨j + 1, x, true, x1, x2, x3, by omega, congrArg (Value.int .i64) (by omega), rfl, rfl, rfl, rfl, rfl, HS2, HF2, HOX2⟩, by simp only [intOf]; omega⟩
                · have t3 : (a == t) = false := by rw [beq_eq_false_iff_ne]; exact q1
                  have HQ1 := hide q1
                  clear q1
                  by_cases hm : mi < 0
                  · have HM := hide hm
                    have h1 : ¬ 0 ≤ mi := by omega
                    as_aux_lemma =>
                      have HS2 := hide (show slowN l (j + 1) = (x, b0) by rw [slow_skip HY.out (fun h => by have h1 := h.1; rw [← HMI.out] at h1; have := HM.out; omega), HS.out])
                      have HF2 := hide (show flowN l f t (j + 1) = (x1, x2, x3) by rw [flow_skip HY.out (fun h => HK1.out h.1) (fun h => HQ1.out h.2.1), HF.out])
                      clear HS HF
                      go_wp2_with fail
                      exact ⟨⟨j + 1, x, b0, x1, x2, x3, by omega, congrArg (Value.int .i64) (by omega), rfl, rfl, rfl, rfl, rfl, HS2, HF2, HOX⟩, by simp only [intOf]; omega⟩
                  · as_aux_lemma =>
                      have h1 : 0 ≤ mi := by omega
                      obtain ⟨q, hq, hqn⟩ := match_part (show j < l.length by rw [HLN.out]; exact hj) (by rw [← HMI.out]; omega)
                      have hpb := part_back (show j < l.length by rw [HLN.out]; exact hj) hq
                      obtain rfl : mi = (q : Int) := by rw [HMI.out]; exact hq
                      clear hq
                      obtain ⟨g8, o8, h8, m8⟩ := match_cell (HM9.out.only HOX.out (by simp)) hqn
                      injection h8 with h8
                      injection h8 with h8 h8b
                      subst h8 h8b
                      rw [hpb] at m8
                      have hqI : (q : Int) < (i : Int) := by have := HLN.out; omega
                      clear hpb
                      obtain ⟨r2, hr2⟩ : ∃ r, L[q]? = some r := ⟨_, List.getElem?_eq_getElem (by rw [← HN.out, ← HLN.out]; exact hqn)⟩
                      obtain ⟨⟨k2, a2, p2, b2, n2⟩, v2⟩ := r2
                      have HZ := hide (show l[q]? = some ⟨k2, a2, p2, b2, n2⟩ by rw [HLL.out, List.getElem?_map, hr2]; rfl)
                      obtain ⟨-, -, -, -, d4⟩ := rec_get hr2 ((HL.out.only HO.out (by simp)).only HOX.out (by simp))
                      have sn := (HALL.out _ (List.mem_of_getElem? hr2)).2
                      have tn := HOKR.out.2
                      simp only at d4 sn tn
                      have hsub : IntKind.i64.wrap (nw - n2) = nw - n2 := by rw [IntWalk.i64_in _ (by omega)]
                      clear hr2 sn tn
                      have HMQ := hide HMI.out.symm
                      go_upto_region 23 with fail
                      go_quiet (fail)
                      obtain ⟨d, hd⟩ : ∃ d, d = nw - n2 := ⟨_, rfl⟩
                      rw [← hd] at hsub ⊢
                      have HD := hide hd
                      clear hd hsub
                      have HOX2 := hide (HOX.out.drewN nq)
                      cases b0 with
                      | false =>
                        as_aux_lemma =>
                          have HS2 := hide (show slowN l (j + 1) = (d, true) by rw [slow_more HY.out HMQ.out HK.out HZ.out (.inl (by rw [HS.out])), HD.out])
                          have HF2 := hide (show flowN l f t (j + 1) = (x1, x2, x3) by rw [flow_skip HY.out (fun h => HK1.out h.1) (fun h => HQ1.out h.2.1), HF.out])
                          clear HS HF
                          go_wp2_with fail
                          exact ⟨⟨j + 1, d, true, x1, x2, x3, by omega, congrArg (Value.int .i64) (by omega), rfl, rfl, rfl, rfl, rfl, HS2, HF2, HOX2⟩, by simp only [intOf]; omega⟩
                      | true =>
                        by_cases hx : x < d
                        · as_aux_lemma =>
                            have HS2 := hide (show slowN l (j + 1) = (d, true) by rw [slow_more HY.out HMQ.out HK.out HZ.out (.inr (by rw [HS.out]; show x < nw - n2; rw [← HD.out]; exact hx)), HD.out])
                            have HF2 := hide (show flowN l f t (j + 1) = (x1, x2, x3) by rw [flow_skip HY.out (fun h => HK1.out h.1) (fun h => HQ1.out h.2.1), HF.out])
                            clear HS HF
                            go_wp2_with fail
                            exact ⟨⟨j + 1, d, true, x1, x2, x3, by omega, congrArg (Value.int .i64) (by omega), rfl, rfl, rfl, rfl, rfl, HS2, HF2, HOX2⟩, by simp only [intOf]; omega⟩
                        · as_aux_lemma =>
                            have HS2 := hide (show slowN l (j + 1) = (x, true) by exact slow_less2 HY.out HMQ.out HK.out HZ.out HS.out (fun h => hx (by rw [HD.out]; exact h)))
                            have HF2 := hide (show flowN l f t (j + 1) = (x1, x2, x3) by rw [flow_skip HY.out (fun h => HK1.out h.1) (fun h => HQ1.out h.2.1), HF.out])
                            clear HS HF
                            go_wp2_with fail
                            exact ⟨⟨j + 1, x, true, x1, x2, x3, by omega, congrArg (Value.int .i64) (by omega), rfl, rfl, rfl, rfl, rfl, HS2, HF2, HOX2⟩, by simp only [intOf]; omega⟩
            · as_aux_lemma =>
                have t1 : (k == 1) = false := by rw [beq_eq_false_iff_ne]; exact hk
                have t2 : (k == 2) = false := by rw [beq_eq_false_iff_ne]; exact hk2
                have HK1 := hide hk
                have HK2 := hide hk2
                clear hk hk2
                by_cases hm : mi < 0
                · have h1 : ¬ 0 ≤ mi := by omega
                  as_aux_lemma =>
                    have HS2 := hide (show slowN l (j + 1) = (x, b0) by rw [slow_skip HY.out (fun h => HK2.out h.2), HS.out])
                    have HF2 := hide (show flowN l f t (j + 1) = (x1, x2, x3) by rw [flow_skip HY.out (fun h => HK1.out h.1) (fun h => HK2.out h.1), HF.out])
                    clear HS HF
                    go_wp2_with fail
                    exact ⟨⟨j + 1, x, b0, x1, x2, x3, by omega, congrArg (Value.int .i64) (by omega), rfl, rfl, rfl, rfl, rfl, HS2, HF2, HOX⟩, by simp only [intOf]; omega⟩
                · have h1 : 0 ≤ mi := by omega
                  obtain ⟨q, hq, hqn⟩ := match_part (show j < l.length by rw [HLN.out]; exact hj) (by rw [← HMI.out]; omega)
                  have hpb := part_back (show j < l.length by rw [HLN.out]; exact hj) hq
                  obtain rfl : mi = (q : Int) := by rw [HMI.out]; exact hq
                  clear hq
                  obtain ⟨g8, o8, h8, m8⟩ := match_cell (HM9.out.only HOX.out (by simp)) hqn
                  injection h8 with h8
                  injection h8 with h8 h8b
                  subst h8 h8b
                  rw [hpb] at m8
                  have hqI : (q : Int) < (i : Int) := by have := HLN.out; omega
                  clear hpb
                  as_aux_lemma =>
                    have HS2 := hide (show slowN l (j + 1) = (x, b0) by rw [slow_skip HY.out (fun h => HK2.out h.2), HS.out])
                    have HF2 := hide (show flowN l f t (j + 1) = (x1, x2, x3) by rw [flow_skip HY.out (fun h => HK1.out h.1) (fun h => HK2.out h.1), HF.out])
                    clear HS HF
                    go_wp2_with fail
                    exact ⟨⟨j + 1, x, b0, x1, x2, x3, by omega, congrArg (Value.int .i64) (by omega), rfl, rfl, rfl, rfl, rfl, HS2, HF2, HOX⟩, by simp only [intOf]; omega⟩
end
end Go.Proofs.Ytahocmccaljplaa

/-
  Walks and plain words (texts Ro13). No condition beyond those that each theorem states.
-/
import Derived.Deep.RegionHeld3
import Derived.Test.YteoifokmbkpbnaaQ13
namespace Go.Proofs.Yteoifokmbkpbnaa
section
open Go.RowKit Go.Deep

set_option maxRecDepth 100000 in
set_option maxHeartbeats 12800000 in
theorem rp_u1_h1 (w : World) (mv rv : Value) (m : List (Int × Int)) (rs : List Rt) (U : Int) (host sec : Int) (hm : RdS 2 ptc w [] mv m) (hmf : ∀ p ∈ m, Fit p) (hr : RdR w [] rv rs) (hf : ∀ r ∈ rs, FitR r) (hhv : heavyV m rs = false) (hj : jrV m rs = true) (hU : U < 0 ∨ 1000 < U) (hU0 : U < 0) (hh : host < 0) :
    Calls Try.prog 4 #[.agg #[mv, rv], .int .i64 U, .int .i64 host, .int .i64 sec] w fun e w' => e = .returned (.bool true) ∧ Only [] w w' := by
  have HAW := hide (fun W => awake22 W)
  have HHV := hide (fun W (h : Only [] w W) => heavy_any W mv rv m rs (hm.only h (by simp)) (hr.only h (by simp)))
  rw [hhv] at HHV
  obtain ⟨hml, hrl, hll⟩ := heavy_no hhv
  have HAS := hide (fun W (h : Only [] w W) => as_any W [] [] mv rv m rs (hm.only h (by simp)) hml (hr.only h (by simp)) hrl hll)
  have HRF := hide (fun w5 v1 v2 rs' h1 h2 h3 => refs_of (w5 := w5) (v1 := v1) (v2 := v2) (m := m) (rs := rs) (rs' := rs') h1 h2 h3 hml hrl hll hf)
  have HJR := hide (fun W (h : Only [] w W) => journey_right W [] [] mv rv m rs (hm.only h (by simp)) hml hmf (hr.only h (by simp)) hrl hll hf)
  rw [hj] at HJR
  have HJT := hide hj
  have HN8 := hide (show rs.length ≤ 8 from by unfold jrV at hj; rw [Bool.and_eq_true, Bool.and_eq_true] at hj; exact (of_decide_eq_true hj.2.1).2)
  obtain ⟨Am0, cm0, hmv0, _, _⟩ := hm.form
  obtain ⟨A0, cap0, hrv0, _, _⟩ := hr.1.form
  have HPL := hide (fun W (h : Only [] w W) => plan_arg W [] [] mv rv m rs U (hm.only h (by simp)) hml hmf (hr.only h (by simp)) hrl hll hf hj hU)
  have HMO := hide (fun W (h : Only [] w W) => moves_err W mv rv _ _ _ _ _ _ hmv0 hrv0 U 2 (fun W' h' => HPL.out W' (h.trans h')) (by decide))
  have HAT := hide (fun W (h : Only [] w W) => jat_none W [] [] mv rv m rs host sec (hm.only h (by simp)) hml hmf (hr.only h (by simp)) hrl hll hf hj (.inl hh))
  rw [hj] at HRF
  clear hj hll hmv0 hrv0 
  obtain ⟨Am, cm, rfl, hcm0, hcm1⟩ := hm.form
  obtain ⟨A, cap, rfl, hcap, hmx⟩ := hr.1.form
  unfold maxLen at hmx hcm1
  generalize hnm : m.length = nm at *
  generalize hn : rs.length = n at *
  have HNM := hide hnm.symm
  have HN := hide hn.symm
  have HB := hide (Blk.new w 49 #[.slice Am nm cm, .slice A n cap])
  have HO := hide ((Only.refl [] w).alloc (.cells #[.slice Am nm cm, .slice A n cap] 49))
  clear hm hmf hr hf hhv hnm hn
  go_enter Try.func4, Try.ntmps4
  go_wp2_with (first
    | (go_at_call 18; refine (HAW.out _).mono ?_; rintro e w0 ⟨rfl, rfl⟩)
    | (go_at_call 19; refine (HHV.out _ HO.out).mono ?_; rintro e w1 ⟨rfl, ho⟩; replace HO := hide (HO.out.trans ho); replace HB := hide (HB.out.only ho (by simp)); (try clear k0 k1); have k0 := HB.out.cell 0; have k1 := HB.out.cell 1; simp at k0 k1; (try (replace HX := hide (HX.out.trans ho))); (try (replace HPV := hide (HPV.out.only ho (by simp)))); clear ho)
    | (go_at_call 20; refine (HAS.out _ HO.out).mono ?_; rintro e w2 ⟨v1, v2, rs2, rfl, hms, hrs, hk, ho⟩; have HREF := hide (HRF.out w2 v1 v2 rs2 hms hrs hk); obtain ⟨A1, c1, rfl⟩ := HREF.out.2.2.2.1; obtain ⟨A2, c2, rfl⟩ := HREF.out.2.2.2.2; replace HO := hide (HO.out.trans ho); replace HB := hide (HB.out.only ho (by simp)); (try clear k0 k1); have k0 := HB.out.cell 0; have k1 := HB.out.cell 1; simp at k0 k1; (try (replace HX := hide (HX.out.trans ho))); (try (replace HPV := hide (HPV.out.only ho (by simp)))); clear ho; have HX := hide (Only.refl [] w2); clear hms hrs hk)
    | (go_at_call 21; refine (HREF.out.1 _ HX.out).mono ?_; rintro e w3 ⟨rfl, ho⟩; replace HO := hide (HO.out.trans ho); replace HB := hide (HB.out.only ho (by simp)); (try clear k0 k1); have k0 := HB.out.cell 0; have k1 := HB.out.cell 1; simp at k0 k1; (try (replace HX := hide (HX.out.trans ho))); (try (replace HPV := hide (HPV.out.only ho (by simp)))); clear ho)
    | (go_at_call 22; refine (HPL.out _ HO.out).mono ?_; rintro e w4 ⟨rfl, ho⟩; replace HO := hide (HO.out.trans ho); replace HB := hide (HB.out.only ho (by simp)); (try clear k0 k1); have k0 := HB.out.cell 0; have k1 := HB.out.cell 1; simp at k0 k1; (try (replace HX := hide (HX.out.trans ho))); (try (replace HPV := hide (HPV.out.only ho (by simp)))); clear ho)
    | (go_at_call 23; refine (HMO.out _ HO.out).mono ?_; rintro e w5 ⟨rfl, ho⟩; replace HO := hide (HO.out.trans ho); replace HB := hide (HB.out.only ho (by simp)); (try clear k0 k1); have k0 := HB.out.cell 0; have k1 := HB.out.cell 1; simp at k0 k1; (try (replace HX := hide (HX.out.trans ho))); (try (replace HPV := hide (HPV.out.only ho (by simp)))); clear ho)
    | (go_at_call 24; refine (HAT.out _ HO.out).mono ?_; rintro e w6 ⟨rfl, ho⟩; replace HO := hide (HO.out.trans ho); replace HB := hide (HB.out.only ho (by simp)); (try clear k0 k1); have k0 := HB.out.cell 0; have k1 := HB.out.cell 1; simp at k0 k1; (try (replace HX := hide (HX.out.trans ho))); (try (replace HPV := hide (HPV.out.only ho (by simp)))); clear ho)
    | (go_at_call 25; refine (HJR.out _ HO.out).mono ?_; rintro e w7 ⟨rfl, ho⟩; replace HO := hide (HO.out.trans ho); replace HB := hide (HB.out.only ho (by simp)); (try clear k0 k1); have k0 := HB.out.cell 0; have k1 := HB.out.cell 1; simp at k0 k1; (try (replace HX := hide (HX.out.trans ho))); (try (replace HPV := hide (HPV.out.only ho (by simp)))); clear ho))
  go_ret
  exact ⟨rfl, HO.out⟩
set_option maxRecDepth 100000 in
set_option maxHeartbeats 12800000 in
theorem rp_u1_h2 (w : World) (mv rv : Value) (m : List (Int × Int)) (rs : List Rt) (U : Int) (host sec : Int) (hm : RdS 2 ptc w [] mv m) (hmf : ∀ p ∈ m, Fit p) (hr : RdR w [] rv rs) (hf : ∀ r ∈ rs, FitR r) (hhv : heavyV m rs = false) (hj : jrV m rs = true) (hU : U < 0 ∨ 1000 < U) (hU0 : U < 0) (hh0 : ¬ host < 0) (hh : (rs.length : Int) ≤ host) :
    Calls Try.prog 4 #[.agg #[mv, rv], .int .i64 U, .int .i64 host, .int .i64 sec] w fun e w' => e = .returned (.bool true) ∧ Only [] w w' := by
  have HAW := hide (fun W => awake22 W)
  have HHV := hide (fun W (h : Only [] w W) => heavy_any W mv rv m rs (hm.only h (by simp)) (hr.only h (by simp)))
  rw [hhv] at HHV
  obtain ⟨hml, hrl, hll⟩ := heavy_no hhv
  have HAS := hide (fun W (h : Only [] w W) => as_any W [] [] mv rv m rs (hm.only h (by simp)) hml (hr.only h (by simp)) hrl hll)
  have HRF := hide (fun w5 v1 v2 rs' h1 h2 h3 => refs_of (w5 := w5) (v1 := v1) (v2 := v2) (m := m) (rs := rs) (rs' := rs') h1 h2 h3 hml hrl hll hf)
  have HJR := hide (fun W (h : Only [] w W) => journey_right W [] [] mv rv m rs (hm.only h (by simp)) hml hmf (hr.only h (by simp)) hrl hll hf)
  rw [hj] at HJR
  have HJT := hide hj
  have HN8 := hide (show rs.length ≤ 8 from by unfold jrV at hj; rw [Bool.and_eq_true, Bool.and_eq_true] at hj; exact (of_decide_eq_true hj.2.1).2)
  obtain ⟨Am0, cm0, hmv0, _, _⟩ := hm.form
  obtain ⟨A0, cap0, hrv0, _, _⟩ := hr.1.form
  have HPL := hide (fun W (h : Only [] w W) => plan_arg W [] [] mv rv m rs U (hm.only h (by simp)) hml hmf (hr.only h (by simp)) hrl hll hf hj hU)
  have HMO := hide (fun W (h : Only [] w W) => moves_err W mv rv _ _ _ _ _ _ hmv0 hrv0 U 2 (fun W' h' => HPL.out W' (h.trans h')) (by decide))
  have HAT := hide (fun W (h : Only [] w W) => jat_none W [] [] mv rv m rs host sec (hm.only h (by simp)) hml hmf (hr.only h (by simp)) hrl hll hf hj (.inr hh))
  rw [hj] at HRF
  clear hj hll hmv0 hrv0 
  obtain ⟨Am, cm, rfl, hcm0, hcm1⟩ := hm.form
  obtain ⟨A, cap, rfl, hcap, hmx⟩ := hr.1.form
  unfold maxLen at hmx hcm1
  generalize hnm : m.length = nm at *
  generalize hn : rs.length = n at *
  have HNM := hide hnm.symm
  have HN := hide hn.symm
  have HB := hide (Blk.new w 49 #[.slice Am nm cm, .slice A n cap])
  have HO := hide ((Only.refl [] w).alloc (.cells #[.slice Am nm cm, .slice A n cap] 49))
  clear hm hmf hr hf hhv hnm hn
  go_enter Try.func4, Try.ntmps4
  go_wp2_with (first
    | (go_at_call 18; refine (HAW.out _).mono ?_; rintro e w0 ⟨rfl, rfl⟩)
    | (go_at_call 19; refine (HHV.out _ HO.out).mono ?_; rintro e w1 ⟨rfl, ho⟩; replace HO := hide (HO.out.trans ho); replace HB := hide (HB.out.only ho (by simp)); (try clear k0 k1); have k0 := HB.out.cell 0; have k1 := HB.out.cell 1; simp at k0 k1; (try (replace HX := hide (HX.out.trans ho))); (try (replace HPV := hide (HPV.out.only ho (by simp)))); clear ho)
    | (go_at_call 20; refine (HAS.out _ HO.out).mono ?_; rintro e w2 ⟨v1, v2, rs2, rfl, hms, hrs, hk, ho⟩; have HREF := hide (HRF.out w2 v1 v2 rs2 hms hrs hk); obtain ⟨A1, c1, rfl⟩ := HREF.out.2.2.2.1; obtain ⟨A2, c2, rfl⟩ := HREF.out.2.2.2.2; replace HO := hide (HO.out.trans ho); replace HB := hide (HB.out.only ho (by simp)); (try clear k0 k1); have k0 := HB.out.cell 0; have k1 := HB.out.cell 1; simp at k0 k1; (try (replace HX := hide (HX.out.trans ho))); (try (replace HPV := hide (HPV.out.only ho (by simp)))); clear ho; have HX := hide (Only.refl [] w2); clear hms hrs hk)
    | (go_at_call 21; refine (HREF.out.1 _ HX.out).mono ?_; rintro e w3 ⟨rfl, ho⟩; replace HO := hide (HO.out.trans ho); replace HB := hide (HB.out.only ho (by simp)); (try clear k0 k1); have k0 := HB.out.cell 0; have k1 := HB.out.cell 1; simp at k0 k1; (try (replace HX := hide (HX.out.trans ho))); (try (replace HPV := hide (HPV.out.only ho (by simp)))); clear ho)
    | (go_at_call 22; refine (HPL.out _ HO.out).mono ?_; rintro e w4 ⟨rfl, ho⟩; replace HO := hide (HO.out.trans ho); replace HB := hide (HB.out.only ho (by simp)); (try clear k0 k1); have k0 := HB.out.cell 0; have k1 := HB.out.cell 1; simp at k0 k1; (try (replace HX := hide (HX.out.trans ho))); (try (replace HPV := hide (HPV.out.only ho (by simp)))); clear ho)
    | (go_at_call 23; refine (HMO.out _ HO.out).mono ?_; rintro e w5 ⟨rfl, ho⟩; replace HO := hide (HO.out.trans ho); replace HB := hide (HB.out.only ho (by simp)); (try clear k0 k1); have k0 := HB.out.cell 0; have k1 := HB.out.cell 1; simp at k0 k1; (try (replace HX := hide (HX.out.trans ho))); (try (replace HPV := hide (HPV.out.only ho (by simp)))); clear ho)
    | (go_at_call 24; refine (HAT.out _ HO.out).mono ?_; rintro e w6 ⟨rfl, ho⟩; replace HO := hide (HO.out.trans ho); replace HB := hide (HB.out.only ho (by simp)); (try clear k0 k1); have k0 := HB.out.cell 0; have k1 := HB.out.cell 1; simp at k0 k1; (try (replace HX := hide (HX.out.trans ho))); (try (replace HPV := hide (HPV.out.only ho (by simp)))); clear ho)
    | (go_at_call 25; refine (HJR.out _ HO.out).mono ?_; rintro e w7 ⟨rfl, ho⟩; replace HO := hide (HO.out.trans ho); replace HB := hide (HB.out.only ho (by simp)); (try clear k0 k1); have k0 := HB.out.cell 0; have k1 := HB.out.cell 1; simp at k0 k1; (try (replace HX := hide (HX.out.trans ho))); (try (replace HPV := hide (HPV.out.only ho (by simp)))); clear ho))
  go_ret
  exact ⟨rfl, HO.out⟩
set_option maxRecDepth 100000 in
set_option maxHeartbeats 12800000 in
theorem rp_u1_h3 (w : World) (mv rv : Value) (m : List (Int × Int)) (rs : List Rt) (U : Int) (hostN : Nat) (sec : Int) (hm : RdS 2 ptc w [] mv m) (hmf : ∀ p ∈ m, Fit p) (hr : RdR w [] rv rs) (hf : ∀ r ∈ rs, FitR r) (hhv : heavyV m rs = false) (hj : jrV m rs = true) (hU : U < 0 ∨ 1000 < U) (hU0 : U < 0) (hh : hostN < rs.length) (hT : sec < 0) :
    Calls Try.prog 4 #[.agg #[mv, rv], .int .i64 U, .int .i64 (hostN : Nat), .int .i64 sec] w fun e w' => e = .returned (.bool true) ∧ Only [] w w' := by
  have HAW := hide (fun W => awake22 W)
  have HHV := hide (fun W (h : Only [] w W) => heavy_any W mv rv m rs (hm.only h (by simp)) (hr.only h (by simp)))
  rw [hhv] at HHV
  obtain ⟨hml, hrl, hll⟩ := heavy_no hhv
  have HAS := hide (fun W (h : Only [] w W) => as_any W [] [] mv rv m rs (hm.only h (by simp)) hml (hr.only h (by simp)) hrl hll)
  have HRF := hide (fun w5 v1 v2 rs' h1 h2 h3 => refs_of (w5 := w5) (v1 := v1) (v2 := v2) (m := m) (rs := rs) (rs' := rs') h1 h2 h3 hml hrl hll hf)
  have HJR := hide (fun W (h : Only [] w W) => journey_right W [] [] mv rv m rs (hm.only h (by simp)) hml hmf (hr.only h (by simp)) hrl hll hf)
  rw [hj] at HJR
  have HJT := hide hj
  have HN8 := hide (show rs.length ≤ 8 from by unfold jrV at hj; rw [Bool.and_eq_true, Bool.and_eq_true] at hj; exact (of_decide_eq_true hj.2.1).2)
  obtain ⟨Am0, cm0, hmv0, _, _⟩ := hm.form
  obtain ⟨A0, cap0, hrv0, _, _⟩ := hr.1.form
  have HPL := hide (fun W (h : Only [] w W) => plan_arg W [] [] mv rv m rs U (hm.only h (by simp)) hml hmf (hr.only h (by simp)) hrl hll hf hj hU)
  have HMO := hide (fun W (h : Only [] w W) => moves_err W mv rv _ _ _ _ _ _ hmv0 hrv0 U 2 (fun W' h' => HPL.out W' (h.trans h')) (by decide))
  have HAT := hide (fun W (h : Only [] w W) => jat_arg W [] [] mv rv m rs hostN sec (hm.only h (by simp)) hml hmf (hr.only h (by simp)) hrl hll hf hj hh hT)
  rw [hj] at HRF
  clear hj hll hmv0 hrv0 
  obtain ⟨Am, cm, rfl, hcm0, hcm1⟩ := hm.form
  obtain ⟨A, cap, rfl, hcap, hmx⟩ := hr.1.form
  unfold maxLen at hmx hcm1
  generalize hnm : m.length = nm at *
  generalize hn : rs.length = n at *
  have HNM := hide hnm.symm
  have HN := hide hn.symm
  have HB := hide (Blk.new w 49 #[.slice Am nm cm, .slice A n cap])
  have HO := hide ((Only.refl [] w).alloc (.cells #[.slice Am nm cm, .slice A n cap] 49))
  clear hm hmf hr hf hhv hnm hn
  have hhI : ¬ (hostN : Int) < 0 := by omega
  have hhJ : ¬ (n : Int) ≤ hostN := by omega
  go_enter Try.func4, Try.ntmps4
  go_wp2_with (first
    | (go_at_call 18; refine (HAW.out _).mono ?_; rintro e w0 ⟨rfl, rfl⟩)
    | (go_at_call 19; refine (HHV.out _ HO.out).mono ?_; rintro e w1 ⟨rfl, ho⟩; replace HO := hide (HO.out.trans ho); replace HB := hide (HB.out.only ho (by simp)); (try clear k0 k1); have k0 := HB.out.cell 0; have k1 := HB.out.cell 1; simp at k0 k1; (try (replace HX := hide (HX.out.trans ho))); (try (replace HPV := hide (HPV.out.only ho (by simp)))); clear ho)
    | (go_at_call 20; refine (HAS.out _ HO.out).mono ?_; rintro e w2 ⟨v1, v2, rs2, rfl, hms, hrs, hk, ho⟩; have HREF := hide (HRF.out w2 v1 v2 rs2 hms hrs hk); obtain ⟨A1, c1, rfl⟩ := HREF.out.2.2.2.1; obtain ⟨A2, c2, rfl⟩ := HREF.out.2.2.2.2; replace HO := hide (HO.out.trans ho); replace HB := hide (HB.out.only ho (by simp)); (try clear k0 k1); have k0 := HB.out.cell 0; have k1 := HB.out.cell 1; simp at k0 k1; (try (replace HX := hide (HX.out.trans ho))); (try (replace HPV := hide (HPV.out.only ho (by simp)))); clear ho; have HX := hide (Only.refl [] w2); clear hms hrs hk)
    | (go_at_call 21; refine (HREF.out.1 _ HX.out).mono ?_; rintro e w3 ⟨rfl, ho⟩; replace HO := hide (HO.out.trans ho); replace HB := hide (HB.out.only ho (by simp)); (try clear k0 k1); have k0 := HB.out.cell 0; have k1 := HB.out.cell 1; simp at k0 k1; (try (replace HX := hide (HX.out.trans ho))); (try (replace HPV := hide (HPV.out.only ho (by simp)))); clear ho)
    | (go_at_call 22; refine (HPL.out _ HO.out).mono ?_; rintro e w4 ⟨rfl, ho⟩; replace HO := hide (HO.out.trans ho); replace HB := hide (HB.out.only ho (by simp)); (try clear k0 k1); have k0 := HB.out.cell 0; have k1 := HB.out.cell 1; simp at k0 k1; (try (replace HX := hide (HX.out.trans ho))); (try (replace HPV := hide (HPV.out.only ho (by simp)))); clear ho)
    | (go_at_call 23; refine (HMO.out _ HO.out).mono ?_; rintro e w5 ⟨rfl, ho⟩; replace HO := hide (HO.out.trans ho); replace HB := hide (HB.out.only ho (by simp)); (try clear k0 k1); have k0 := HB.out.cell 0; have k1 := HB.out.cell 1; simp at k0 k1; (try (replace HX := hide (HX.out.trans ho))); (try (replace HPV := hide (HPV.out.only ho (by simp)))); clear ho)
    | (go_at_call 24; refine (HAT.out _ HO.out).mono ?_; rintro e w6 ⟨rfl, ho⟩; replace HO := hide (HO.out.trans ho); replace HB := hide (HB.out.only ho (by simp)); (try clear k0 k1); have k0 := HB.out.cell 0; have k1 := HB.out.cell 1; simp at k0 k1; (try (replace HX := hide (HX.out.trans ho))); (try (replace HPV := hide (HPV.out.only ho (by simp)))); clear ho)
    | (go_at_call 25; refine (HJR.out _ HO.out).mono ?_; rintro e w7 ⟨rfl, ho⟩; replace HO := hide (HO.out.trans ho); replace HB := hide (HB.out.only ho (by simp)); (try clear k0 k1); have k0 := HB.out.cell 0; have k1 := HB.out.cell 1; simp at k0 k1; (try (replace HX := hide (HX.out.trans ho))); (try (replace HPV := hide (HPV.out.only ho (by simp)))); clear ho))
  go_ret
  exact ⟨rfl, HO.out⟩
set_option maxRecDepth 100000 in
set_option maxHeartbeats 12800000 in
theorem rp_u1_h4 (w : World) (mv rv : Value) (m : List (Int × Int)) (rs : List Rt) (U : Int) (hostN secN : Nat) (hm : RdS 2 ptc w [] mv m) (hmf : ∀ p ∈ m, Fit p) (hr : RdR w [] rv rs) (hf : ∀ r ∈ rs, FitR r) (hhv : heavyV m rs = false) (hj : jrV m rs = true) (hU : U < 0 ∨ 1000 < U) (hU0 : U < 0) (hh : hostN < rs.length) (hT : secN ≤ 9223372036854775807) :
    Calls Try.prog 4 #[.agg #[mv, rv], .int .i64 U, .int .i64 (hostN : Nat), .int .i64 (secN : Nat)] w fun e w' => e = .returned (.bool true) ∧ Only [] w w' := by
  have HAW := hide (fun W => awake22 W)
  have HHV := hide (fun W (h : Only [] w W) => heavy_any W mv rv m rs (hm.only h (by simp)) (hr.only h (by simp)))
  rw [hhv] at HHV
  obtain ⟨hml, hrl, hll⟩ := heavy_no hhv
  have HAS := hide (fun W (h : Only [] w W) => as_any W [] [] mv rv m rs (hm.only h (by simp)) hml (hr.only h (by simp)) hrl hll)
  have HRF := hide (fun w5 v1 v2 rs' h1 h2 h3 => refs_of (w5 := w5) (v1 := v1) (v2 := v2) (m := m) (rs := rs) (rs' := rs') h1 h2 h3 hml hrl hll hf)
  have HJR := hide (fun W (h : Only [] w W) => journey_right W [] [] mv rv m rs (hm.only h (by simp)) hml hmf (hr.only h (by simp)) hrl hll hf)
  rw [hj] at HJR
  have HJT := hide hj
  have HN8 := hide (show rs.length ≤ 8 from by unfold jrV at hj; rw [Bool.and_eq_true, Bool.and_eq_true] at hj; exact (of_decide_eq_true hj.2.1).2)
  obtain ⟨Am0, cm0, hmv0, _, _⟩ := hm.form
  obtain ⟨A0, cap0, hrv0, _, _⟩ := hr.1.form
  have HPL := hide (fun W (h : Only [] w W) => plan_arg W [] [] mv rv m rs U (hm.only h (by simp)) hml hmf (hr.only h (by simp)) hrl hll hf hj hU)
  have HMO := hide (fun W (h : Only [] w W) => moves_err W mv rv _ _ _ _ _ _ hmv0 hrv0 U 2 (fun W' h' => HPL.out W' (h.trans h')) (by decide))
  have HAT := hide (fun W (h : Only [] w W) => jat_ok W [] [] mv rv m rs hostN secN (hm.only h (by simp)) hml hmf (hr.only h (by simp)) hrl hll hf hj hh hT)
  rw [hj] at HRF
  clear hj hll hmv0 hrv0 
  obtain ⟨Am, cm, rfl, hcm0, hcm1⟩ := hm.form
  obtain ⟨A, cap, rfl, hcap, hmx⟩ := hr.1.form
  unfold maxLen at hmx hcm1
  generalize hnm : m.length = nm at *
  generalize hn : rs.length = n at *
  have HNM := hide hnm.symm
  have HN := hide hn.symm
  have HB := hide (Blk.new w 49 #[.slice Am nm cm, .slice A n cap])
  have HO := hide ((Only.refl [] w).alloc (.cells #[.slice Am nm cm, .slice A n cap] 49))
  clear hm hmf hr hf hhv hnm hn
  have HHN := hide hh
  have HTN := hide hT
  have hhI : ¬ (hostN : Int) < 0 := by omega
  have hhJ : ¬ (n : Int) ≤ hostN := by omega
  have htI : ¬ (secN : Int) < 0 := by omega
  have hn8 := HN8.out
  obtain ⟨Y, hY⟩ : ∃ Y : Int, Y = 8 * (nearV m (atV (rs.getD hostN zr).1 (rs.getD hostN zr).2.2 secN) : Nat) + hostN + 1 := ⟨_, rfl⟩
  rw [← hY] at HAT
  have HY := hide hY
  clear hY
  have hne : (Y != Y) = false := by simp
  go_enter Try.func4, Try.ntmps4
  go_wp2_with (first
    | (go_at_call 18; refine (HAW.out _).mono ?_; rintro e w0 ⟨rfl, rfl⟩)
    | (go_at_call 19; refine (HHV.out _ HO.out).mono ?_; rintro e w1 ⟨rfl, ho⟩; replace HO := hide (HO.out.trans ho); replace HB := hide (HB.out.only ho (by simp)); (try clear k0 k1); have k0 := HB.out.cell 0; have k1 := HB.out.cell 1; simp at k0 k1; (try (replace HX := hide (HX.out.trans ho))); (try (replace HPV := hide (HPV.out.only ho (by simp)))); clear ho)
    | (go_at_call 20; refine (HAS.out _ HO.out).mono ?_; rintro e w2 ⟨v1, v2, rs2, rfl, hms, hrs, hk, ho⟩; have HREF := hide (HRF.out w2 v1 v2 rs2 hms hrs hk); obtain ⟨A1, c1, rfl⟩ := HREF.out.2.2.2.1; obtain ⟨A2, c2, rfl⟩ := HREF.out.2.2.2.2; replace HO := hide (HO.out.trans ho); replace HB := hide (HB.out.only ho (by simp)); (try clear k0 k1); have k0 := HB.out.cell 0; have k1 := HB.out.cell 1; simp at k0 k1; (try (replace HX := hide (HX.out.trans ho))); (try (replace HPV := hide (HPV.out.only ho (by simp)))); clear ho; have HX := hide (Only.refl [] w2); clear hms hrs hk)
    | (go_at_call 21; refine (HREF.out.1 _ HX.out).mono ?_; rintro e w3 ⟨rfl, ho⟩; replace HO := hide (HO.out.trans ho); replace HB := hide (HB.out.only ho (by simp)); (try clear k0 k1); have k0 := HB.out.cell 0; have k1 := HB.out.cell 1; simp at k0 k1; (try (replace HX := hide (HX.out.trans ho))); (try (replace HPV := hide (HPV.out.only ho (by simp)))); clear ho)
    | (go_at_call 22; refine (HPL.out _ HO.out).mono ?_; rintro e w4 ⟨rfl, ho⟩; replace HO := hide (HO.out.trans ho); replace HB := hide (HB.out.only ho (by simp)); (try clear k0 k1); have k0 := HB.out.cell 0; have k1 := HB.out.cell 1; simp at k0 k1; (try (replace HX := hide (HX.out.trans ho))); (try (replace HPV := hide (HPV.out.only ho (by simp)))); clear ho)
    | (go_at_call 23; refine (HMO.out _ HO.out).mono ?_; rintro e w5 ⟨rfl, ho⟩; replace HO := hide (HO.out.trans ho); replace HB := hide (HB.out.only ho (by simp)); (try clear k0 k1); have k0 := HB.out.cell 0; have k1 := HB.out.cell 1; simp at k0 k1; (try (replace HX := hide (HX.out.trans ho))); (try (replace HPV := hide (HPV.out.only ho (by simp)))); clear ho)
    | (go_at_call 24; refine (HAT.out _ HO.out).mono ?_; rintro e w6 ⟨rfl, ho⟩; replace HO := hide (HO.out.trans ho); replace HB := hide (HB.out.only ho (by simp)); (try clear k0 k1); have k0 := HB.out.cell 0; have k1 := HB.out.cell 1; simp at k0 k1; (try (replace HX := hide (HX.out.trans ho))); (try (replace HPV := hide (HPV.out.only ho (by simp)))); clear ho)
    | (go_at_call 25; refine (HJR.out _ HO.out).mono ?_; rintro e w7 ⟨rfl, ho⟩; replace HO := hide (HO.out.trans ho); replace HB := hide (HB.out.only ho (by simp)); (try clear k0 k1); have k0 := HB.out.cell 0; have k1 := HB.out.cell 1; simp at k0 k1; (try (replace HX := hide (HX.out.trans ho))); (try (replace HPV := hide (HPV.out.only ho (by simp)))); clear ho)
    | (go_at_call 26; refine (HREF.out.2.1 _ hostN secN HX.out (by trivial) (by have := HHN.out; omega) (by have := HTN.out; omega)).mono ?_; unfold NumPost; rw [← HY.out]; rintro e w8 ⟨rfl, ho⟩; replace HO := hide (HO.out.trans ho); replace HB := hide (HB.out.only ho (by simp)); (try clear k0 k1); have k0 := HB.out.cell 0; have k1 := HB.out.cell 1; simp at k0 k1; (try (replace HX := hide (HX.out.trans ho))); (try (replace HPV := hide (HPV.out.only ho (by simp)))); clear ho))
  go_ret
  exact ⟨rfl, HO.out⟩
set_option maxRecDepth 100000 in
set_option maxHeartbeats 12800000 in
theorem rp_u2_h1 (w : World) (mv rv : Value) (m : List (Int × Int)) (rs : List Rt) (U : Int) (host sec : Int) (hm : RdS 2 ptc w [] mv m) (hmf : ∀ p ∈ m, Fit p) (hr : RdR w [] rv rs) (hf : ∀ r ∈ rs, FitR r) (hhv : heavyV m rs = false) (hj : jrV m rs = true) (hU : U < 0 ∨ 1000 < U) (hU0 : 1000 < U) (hh : host < 0) :
    Calls Try.prog 4 #[.agg #[mv, rv], .int .i64 U, .int .i64 host, .int .i64 sec] w fun e w' => e = .returned (.bool true) ∧ Only [] w w' := by
  have HAW := hide (fun W => awake22 W)
  have HHV := hide (fun W (h : Only [] w W) => heavy_any W mv rv m rs (hm.only h (by simp)) (hr.only h (by simp)))
  rw [hhv] at HHV
  obtain ⟨hml, hrl, hll⟩ := heavy_no hhv
  have HAS := hide (fun W (h : Only [] w W) => as_any W [] [] mv rv m rs (hm.only h (by simp)) hml (hr.only h (by simp)) hrl hll)
  have HRF := hide (fun w5 v1 v2 rs' h1 h2 h3 => refs_of (w5 := w5) (v1 := v1) (v2 := v2) (m := m) (rs := rs) (rs' := rs') h1 h2 h3 hml hrl hll hf)
  have HJR := hide (fun W (h : Only [] w W) => journey_right W [] [] mv rv m rs (hm.only h (by simp)) hml hmf (hr.only h (by simp)) hrl hll hf)
  rw [hj] at HJR
  have HJT := hide hj
  have HN8 := hide (show rs.length ≤ 8 from by unfold jrV at hj; rw [Bool.and_eq_true, Bool.and_eq_true] at hj; exact (of_decide_eq_true hj.2.1).2)
  obtain ⟨Am0, cm0, hmv0, _, _⟩ := hm.form
  obtain ⟨A0, cap0, hrv0, _, _⟩ := hr.1.form
  have HPL := hide (fun W (h : Only [] w W) => plan_arg W [] [] mv rv m rs U (hm.only h (by simp)) hml hmf (hr.only h (by simp)) hrl hll hf hj hU)
  have HMO := hide (fun W (h : Only [] w W) => moves_err W mv rv _ _ _ _ _ _ hmv0 hrv0 U 2 (fun W' h' => HPL.out W' (h.trans h')) (by decide))
  have HAT := hide (fun W (h : Only [] w W) => jat_none W [] [] mv rv m rs host sec (hm.only h (by simp)) hml hmf (hr.only h (by simp)) hrl hll hf hj (.inl hh))
  rw [hj] at HRF
  clear hj hll hmv0 hrv0 
  obtain ⟨Am, cm, rfl, hcm0, hcm1⟩ := hm.form
  obtain ⟨A, cap, rfl, hcap, hmx⟩ := hr.1.form
  unfold maxLen at hmx hcm1
  generalize hnm : m.length = nm at *
  generalize hn : rs.length = n at *
  have HNM := hide hnm.symm
  have HN := hide hn.symm
  have HB := hide (Blk.new w 49 #[.slice Am nm cm, .slice A n cap])
  have HO := hide ((Only.refl [] w).alloc (.cells #[.slice Am nm cm, .slice A n cap] 49))
  clear hm hmf hr hf hhv hnm hn
  go_enter Try.func4, Try.ntmps4
  go_wp2_with (first
    | (go_at_call 18; refine (HAW.out _).mono ?_; rintro e w0 ⟨rfl, rfl⟩)
    | (go_at_call 19; refine (HHV.out _ HO.out).mono ?_; rintro e w1 ⟨rfl, ho⟩; replace HO := hide (HO.out.trans ho); replace HB := hide (HB.out.only ho (by simp)); (try clear k0 k1); have k0 := HB.out.cell 0; have k1 := HB.out.cell 1; simp at k0 k1; (try (replace HX := hide (HX.out.trans ho))); (try (replace HPV := hide (HPV.out.only ho (by simp)))); clear ho)
    | (go_at_call 20; refine (HAS.out _ HO.out).mono ?_; rintro e w2 ⟨v1, v2, rs2, rfl, hms, hrs, hk, ho⟩; have HREF := hide (HRF.out w2 v1 v2 rs2 hms hrs hk); obtain ⟨A1, c1, rfl⟩ := HREF.out.2.2.2.1; obtain ⟨A2, c2, rfl⟩ := HREF.out.2.2.2.2; replace HO := hide (HO.out.trans ho); replace HB := hide (HB.out.only ho (by simp)); (try clear k0 k1); have k0 := HB.out.cell 0; have k1 := HB.out.cell 1; simp at k0 k1; (try (replace HX := hide (HX.out.trans ho))); (try (replace HPV := hide (HPV.out.only ho (by simp)))); clear ho; have HX := hide (Only.refl [] w2); clear hms hrs hk)
    | (go_at_call 21; refine (HREF.out.1 _ HX.out).mono ?_; rintro e w3 ⟨rfl, ho⟩; replace HO := hide (HO.out.trans ho); replace HB := hide (HB.out.only ho (by simp)); (try clear k0 k1); have k0 := HB.out.cell 0; have k1 := HB.out.cell 1; simp at k0 k1; (try (replace HX := hide (HX.out.trans ho))); (try (replace HPV := hide (HPV.out.only ho (by simp)))); clear ho)
    | (go_at_call 22; refine (HPL.out _ HO.out).mono ?_; rintro e w4 ⟨rfl, ho⟩; replace HO := hide (HO.out.trans ho); replace HB := hide (HB.out.only ho (by simp)); (try clear k0 k1); have k0 := HB.out.cell 0; have k1 := HB.out.cell 1; simp at k0 k1; (try (replace HX := hide (HX.out.trans ho))); (try (replace HPV := hide (HPV.out.only ho (by simp)))); clear ho)
    | (go_at_call 23; refine (HMO.out _ HO.out).mono ?_; rintro e w5 ⟨rfl, ho⟩; replace HO := hide (HO.out.trans ho); replace HB := hide (HB.out.only ho (by simp)); (try clear k0 k1); have k0 := HB.out.cell 0; have k1 := HB.out.cell 1; simp at k0 k1; (try (replace HX := hide (HX.out.trans ho))); (try (replace HPV := hide (HPV.out.only ho (by simp)))); clear ho)
    | (go_at_call 24; refine (HAT.out _ HO.out).mono ?_; rintro e w6 ⟨rfl, ho⟩; replace HO := hide (HO.out.trans ho); replace HB := hide (HB.out.only ho (by simp)); (try clear k0 k1); have k0 := HB.out.cell 0; have k1 := HB.out.cell 1; simp at k0 k1; (try (replace HX := hide (HX.out.trans ho))); (try (replace HPV := hide (HPV.out.only ho (by simp)))); clear ho)
    | (go_at_call 25; refine (HJR.out _ HO.out).mono ?_; rintro e w7 ⟨rfl, ho⟩; replace HO := hide (HO.out.trans ho); replace HB := hide (HB.out.only ho (by simp)); (try clear k0 k1); have k0 := HB.out.cell 0; have k1 := HB.out.cell 1; simp at k0 k1; (try (replace HX := hide (HX.out.trans ho))); (try (replace HPV := hide (HPV.out.only ho (by simp)))); clear ho))
  go_ret
  exact ⟨rfl, HO.out⟩
set_option maxRecDepth 100000 in
set_option maxHeartbeats 12800000 in
theorem rp_u2_h2 (w : World) (mv rv : Value) (m : List (Int × Int)) (rs : List Rt) (U : Int) (host sec : Int) (hm : RdS 2 ptc w [] mv m) (hmf : ∀ p ∈ m, Fit p) (hr : RdR w [] rv rs) (hf : ∀ r ∈ rs, FitR r) (hhv : heavyV m rs = false) (hj : jrV m rs = true) (hU : U < 0 ∨ 1000 < U) (hU0 : 1000 < U) (hh0 : ¬ host < 0) (hh : (rs.length : Int) ≤ host) :
    Calls Try.prog 4 #[.agg #[mv, rv], .int .i64 U, .int .i64 host, .int .i64 sec] w fun e w' => e = .returned (.bool true) ∧ Only [] w w' := by
  have HAW := hide (fun W => awake22 W)
  have HHV := hide (fun W (h : Only [] w W) => heavy_any W mv rv m rs (hm.only h (by simp)) (hr.only h (by simp)))
  rw [hhv] at HHV
  obtain ⟨hml, hrl, hll⟩ := heavy_no hhv
  have HAS := hide (fun W (h : Only [] w W) => as_any W [] [] mv rv m rs (hm.only h (by simp)) hml (hr.only h (by simp)) hrl hll)
  have HRF := hide (fun w5 v1 v2 rs' h1 h2 h3 => refs_of (w5 := w5) (v1 := v1) (v2 := v2) (m := m) (rs := rs) (rs' := rs') h1 h2 h3 hml hrl hll hf)
  have HJR := hide (fun W (h : Only [] w W) => journey_right W [] [] mv rv m rs (hm.only h (by simp)) hml hmf (hr.only h (by simp)) hrl hll hf)
  rw [hj] at HJR
  have HJT := hide hj
  have HN8 := hide (show rs.length ≤ 8 from by unfold jrV at hj; rw [Bool.and_eq_true, Bool.and_eq_true] at hj; exact (of_decide_eq_true hj.2.1).2)
  obtain ⟨Am0, cm0, hmv0, _, _⟩ := hm.form
  obtain ⟨A0, cap0, hrv0, _, _⟩ := hr.1.form
  have HPL := hide (fun W (h : Only [] w W) => plan_arg W [] [] mv rv m rs U (hm.only h (by simp)) hml hmf (hr.only h (by simp)) hrl hll hf hj hU)
  have HMO := hide (fun W (h : Only [] w W) => moves_err W mv rv _ _ _ _ _ _ hmv0 hrv0 U 2 (fun W' h' => HPL.out W' (h.trans h')) (by decide))
  have HAT := hide (fun W (h : Only [] w W) => jat_none W [] [] mv rv m rs host sec (hm.only h (by simp)) hml hmf (hr.only h (by simp)) hrl hll hf hj (.inr hh))
  rw [hj] at HRF
  clear hj hll hmv0 hrv0 
  obtain ⟨Am, cm, rfl, hcm0, hcm1⟩ := hm.form
  obtain ⟨A, cap, rfl, hcap, hmx⟩ := hr.1.form
  unfold maxLen at hmx hcm1
  generalize hnm : m.length = nm at *
  generalize hn : rs.length = n at *
  have HNM := hide hnm.symm
  have HN := hide hn.symm
  have HB := hide (Blk.new w 49 #[.slice Am nm cm, .slice A n cap])
  have HO := hide ((Only.refl [] w).alloc (.cells #[.slice Am nm cm, .slice A n cap] 49))
  clear hm hmf hr hf hhv hnm hn
  go_enter Try.func4, Try.ntmps4
  go_wp2_with (first
    | (go_at_call 18; refine (HAW.out _).mono ?_; rintro e w0 ⟨rfl, rfl⟩)
    | (go_at_call 19; refine (HHV.out _ HO.out).mono ?_; rintro e w1 ⟨rfl, ho⟩; replace HO := hide (HO.out.trans ho); replace HB := hide (HB.out.only ho (by simp)); (try clear k0 k1); have k0 := HB.out.cell 0; have k1 := HB.out.cell 1; simp at k0 k1; (try (replace HX := hide (HX.out.trans ho))); (try (replace HPV := hide (HPV.out.only ho (by simp)))); clear ho)
    | (go_at_call 20; refine (HAS.out _ HO.out).mono ?_; rintro e w2 ⟨v1, v2, rs2, rfl, hms, hrs, hk, ho⟩; have HREF := hide (HRF.out w2 v1 v2 rs2 hms hrs hk); obtain ⟨A1, c1, rfl⟩ := HREF.out.2.2.2.1; obtain ⟨A2, c2, rfl⟩ := HREF.out.2.2.2.2; replace HO := hide (HO.out.trans ho); replace HB := hide (HB.out.only ho (by simp)); (try clear k0 k1); have k0 := HB.out.cell 0; have k1 := HB.out.cell 1; simp at k0 k1; (try (replace HX := hide (HX.out.trans ho))); (try (replace HPV := hide (HPV.out.only ho (by simp)))); clear ho; have HX := hide (Only.refl [] w2); clear hms hrs hk)
    | (go_at_call 21; refine (HREF.out.1 _ HX.out).mono ?_; rintro e w3 ⟨rfl, ho⟩; replace HO := hide (HO.out.trans ho); replace HB := hide (HB.out.only ho (by simp)); (try clear k0 k1); have k0 := HB.out.cell 0; have k1 := HB.out.cell 1; simp at k0 k1; (try (replace HX := hide (HX.out.trans ho))); (try (replace HPV := hide (HPV.out.only ho (by simp)))); clear ho)
    | (go_at_call 22; refine (HPL.out _ HO.out).mono ?_; rintro e w4 ⟨rfl, ho⟩; replace HO := hide (HO.out.trans ho); replace HB := hide (HB.out.only ho (by simp)); (try clear k0 k1); have k0 := HB.out.cell 0; have k1 := HB.out.cell 1; simp at k0 k1; (try (replace HX := hide (HX.out.trans ho))); (try (replace HPV := hide (HPV.out.only ho (by simp)))); clear ho)
    | (go_at_call 23; refine (HMO.out _ HO.out).mono ?_; rintro e w5 ⟨rfl, ho⟩; replace HO := hide (HO.out.trans ho); replace HB := hide (HB.out.only ho (by simp)); (try clear k0 k1); have k0 := HB.out.cell 0; have k1 := HB.out.cell 1; simp at k0 k1; (try (replace HX := hide (HX.out.trans ho))); (try (replace HPV := hide (HPV.out.only ho (by simp)))); clear ho)
    | (go_at_call 24; refine (HAT.out _ HO.out).mono ?_; rintro e w6 ⟨rfl, ho⟩; replace HO := hide (HO.out.trans ho); replace HB := hide (HB.out.only ho (by simp)); (try clear k0 k1); have k0 := HB.out.cell 0; have k1 := HB.out.cell 1; simp at k0 k1; (try (replace HX := hide (HX.out.trans ho))); (try (replace HPV := hide (HPV.out.only ho (by simp)))); clear ho)
    | (go_at_call 25; refine (HJR.out _ HO.out).mono ?_; rintro e w7 ⟨rfl, ho⟩; replace HO := hide (HO.out.trans ho); replace HB := hide (HB.out.only ho (by simp)); (try clear k0 k1); have k0 := HB.out.cell 0; have k1 := HB.out.cell 1; simp at k0 k1; (try (replace HX := hide (HX.out.trans ho))); (try (replace HPV := hide (HPV.out.only ho (by simp)))); clear ho))
  go_ret
  exact ⟨rfl, HO.out⟩
set_option maxRecDepth 100000 in
set_option maxHeartbeats 12800000 in
theorem rp_u2_h3 (w : World) (mv rv : Value) (m : List (Int × Int)) (rs : List Rt) (U : Int) (hostN : Nat) (sec : Int) (hm : RdS 2 ptc w [] mv m) (hmf : ∀ p ∈ m, Fit p) (hr : RdR w [] rv rs) (hf : ∀ r ∈ rs, FitR r) (hhv : heavyV m rs = false) (hj : jrV m rs = true) (hU : U < 0 ∨ 1000 < U) (hU0 : 1000 < U) (hh : hostN < rs.length) (hT : sec < 0) :
    Calls Try.prog 4 #[.agg #[mv, rv], .int .i64 U, .int .i64 (hostN : Nat), .int .i64 sec] w fun e w' => e = .returned (.bool true) ∧ Only [] w w' := by
  have HAW := hide (fun W => awake22 W)
  have HHV := hide (fun W (h : Only [] w W) => heavy_any W mv rv m rs (hm.only h (by simp)) (hr.only h (by simp)))
  rw [hhv] at HHV
  obtain ⟨hml, hrl, hll⟩ := heavy_no hhv
  have HAS := hide (fun W (h : Only [] w W) => as_any W [] [] mv rv m rs (hm.only h (by simp)) hml (hr.only h (by simp)) hrl hll)
  have HRF := hide (fun w5 v1 v2 rs' h1 h2 h3 => refs_of (w5 := w5) (v1 := v1) (v2 := v2) (m := m) (rs := rs) (rs' := rs') h1 h2 h3 hml hrl hll hf)
  have HJR := hide (fun W (h : Only [] w W) => journey_right W [] [] mv rv m rs (hm.only h (by simp)) hml hmf (hr.only h (by simp)) hrl hll hf)
  rw [hj] at HJR
  have HJT := hide hj
  have HN8 := hide (show rs.length ≤ 8 from by unfold jrV at hj; rw [Bool.and_eq_true, Bool.and_eq_true] at hj; exact (of_decide_eq_true hj.2.1).2)
  obtain ⟨Am0, cm0, hmv0, _, _⟩ := hm.form
  obtain ⟨A0, cap0, hrv0, _, _⟩ := hr.1.form
  have HPL := hide (fun W (h : Only [] w W) => plan_arg W [] [] mv rv m rs U (hm.only h (by simp)) hml hmf (hr.only h (by simp)) hrl hll hf hj hU)
  have HMO := hide (fun W (h : Only [] w W) => moves_err W mv rv _ _ _ _ _ _ hmv0 hrv0 U 2 (fun W' h' => HPL.out W' (h.trans h')) (by decide))
  have HAT := hide (fun W (h : Only [] w W) => jat_arg W [] [] mv rv m rs hostN sec (hm.only h (by simp)) hml hmf (hr.only h (by simp)) hrl hll hf hj hh hT)
  rw [hj] at HRF
  clear hj hll hmv0 hrv0 
  obtain ⟨Am, cm, rfl, hcm0, hcm1⟩ := hm.form
  obtain ⟨A, cap, rfl, hcap, hmx⟩ := hr.1.form
  unfold maxLen at hmx hcm1
  generalize hnm : m.length = nm at *
  generalize hn : rs.length = n at *
  have HNM := hide hnm.symm
  have HN := hide hn.symm
  have HB := hide (Blk.new w 49 #[.slice Am nm cm, .slice A n cap])
  have HO := hide ((Only.refl [] w).alloc (.cells #[.slice Am nm cm, .slice A n cap] 49))
  clear hm hmf hr hf hhv hnm hn
  have hhI : ¬ (hostN : Int) < 0 := by omega
  have hhJ : ¬ (n : Int) ≤ hostN := by omega
  go_enter Try.func4, Try.ntmps4
  go_wp2_with (first
    | (go_at_call 18; refine (HAW.out _).mono ?_; rintro e w0 ⟨rfl, rfl⟩)
    | (go_at_call 19; refine (HHV.out _ HO.out).mono ?_; rintro e w1 ⟨rfl, ho⟩; replace HO := hide (HO.out.trans ho); replace HB := hide (HB.out.only ho (by simp)); (try clear k0 k1); have k0 := HB.out.cell 0; have k1 := HB.out.cell 1; simp at k0 k1; (try (replace HX := hide (HX.out.trans ho))); (try (replace HPV := hide (HPV.out.only ho (by simp)))); clear ho)
    | (go_at_call 20; refine (HAS.out _ HO.out).mono ?_; rintro e w2 ⟨v1, v2, rs2, rfl, hms, hrs, hk, ho⟩; have HREF := hide (HRF.out w2 v1 v2 rs2 hms hrs hk); obtain ⟨A1, c1, rfl⟩ := HREF.out.2.2.2.1; obtain ⟨A2, c2, rfl⟩ := HREF.out.2.2.2.2; replace HO := hide (HO.out.trans ho); replace HB := hide (HB.out.only ho (by simp)); (try clear k0 k1); have k0 := HB.out.cell 0; have k1 := HB.out.cell 1; simp at k0 k1; (try (replace HX := hide (HX.out.trans ho))); (try (replace HPV := hide (HPV.out.only ho (by simp)))); clear ho; have HX := hide (Only.refl [] w2); clear hms hrs hk)
    | (go_at_call 21; refine (HREF.out.1 _ HX.out).mono ?_; rintro e w3 ⟨rfl, ho⟩; replace HO := hide (HO.out.trans ho); replace HB := hide (HB.out.only ho (by simp)); (try clear k0 k1); have k0 := HB.out.cell 0; have k1 := HB.out.cell 1; simp at k0 k1; (try (replace HX := hide (HX.out.trans ho))); (try (replace HPV := hide (HPV.out.only ho (by simp)))); clear ho)
    | (go_at_call 22; refine (HPL.out _ HO.out).mono ?_; rintro e w4 ⟨rfl, ho⟩; replace HO := hide (HO.out.trans ho); replace HB := hide (HB.out.only ho (by simp)); (try clear k0 k1); have k0 := HB.out.cell 0; have k1 := HB.out.cell 1; simp at k0 k1; (try (replace HX := hide (HX.out.trans ho))); (try (replace HPV := hide (HPV.out.only ho (by simp)))); clear ho)
    | (go_at_call 23; refine (HMO.out _ HO.out).mono ?_; rintro e w5 ⟨rfl, ho⟩; replace HO := hide (HO.out.trans ho); replace HB := hide (HB.out.only ho (by simp)); (try clear k0 k1); have k0 := HB.out.cell 0; have k1 := HB.out.cell 1; simp at k0 k1; (try (replace HX := hide (HX.out.trans ho))); (try (replace HPV := hide (HPV.out.only ho (by simp)))); clear ho)
    | (go_at_call 24; refine (HAT.out _ HO.out).mono ?_; rintro e w6 ⟨rfl, ho⟩; replace HO := hide (HO.out.trans ho); replace HB := hide (HB.out.only ho (by simp)); (try clear k0 k1); have k0 := HB.out.cell 0; have k1 := HB.out.cell 1; simp at k0 k1; (try (replace HX := hide (HX.out.trans ho))); (try (replace HPV := hide (HPV.out.only ho (by simp)))); clear ho)
    | (go_at_call 25; refine (HJR.out _ HO.out).mono ?_; rintro e w7 ⟨rfl, ho⟩; replace HO := hide (HO.out.trans ho); replace HB := hide (HB.out.only ho (by simp)); (try clear k0 k1); have k0 := HB.out.cell 0; have k1 := HB.out.cell 1; simp at k0 k1; (try (replace HX := hide (HX.out.trans ho))); (try (replace HPV := hide (HPV.out.only ho (by simp)))); clear ho))
  go_ret
  exact ⟨rfl, HO.out⟩
set_option maxRecDepth 100000 in
set_option maxHeartbeats 12800000 in
theorem rp_u2_h4 (w : World) (mv rv : Value) (m : List (Int × Int)) (rs : List Rt) (U : Int) (hostN secN : Nat) (hm : RdS 2 ptc w [] mv m) (hmf : ∀ p ∈ m, Fit p) (hr : RdR w [] rv rs) (hf : ∀ r ∈ rs, FitR r) (hhv : heavyV m rs = false) (hj : jrV m rs = true) (hU : U < 0 ∨ 1000 < U) (hU0 : 1000 < U) (hh : hostN < rs.length) (hT : secN ≤ 9223372036854775807) :
    Calls Try.prog 4 #[.agg #[mv, rv], .int .i64 U, .int .i64 (hostN : Nat), .int .i64 (secN : Nat)] w fun e w' => e = .returned (.bool true) ∧ Only [] w w' := by
  have HAW := hide (fun W => awake22 W)
  have HHV := hide (fun W (h : Only [] w W) => heavy_any W mv rv m rs (hm.only h (by simp)) (hr.only h (by simp)))
  rw [hhv] at HHV
  obtain ⟨hml, hrl, hll⟩ := heavy_no hhv
  have HAS := hide (fun W (h : Only [] w W) => as_any W [] [] mv rv m rs (hm.only h (by simp)) hml (hr.only h (by simp)) hrl hll)
  have HRF := hide (fun w5 v1 v2 rs' h1 h2 h3 => refs_of (w5 := w5) (v1 := v1) (v2 := v2) (m := m) (rs := rs) (rs' := rs') h1 h2 h3 hml hrl hll hf)
  have HJR := hide (fun W (h : Only [] w W) => journey_right W [] [] mv rv m rs (hm.only h (by simp)) hml hmf (hr.only h (by simp)) hrl hll hf)
  rw [hj] at HJR
  have HJT := hide hj
  have HN8 := hide (show rs.length ≤ 8 from by unfold jrV at hj; rw [Bool.and_eq_true, Bool.and_eq_true] at hj; exact (of_decide_eq_true hj.2.1).2)
  obtain ⟨Am0, cm0, hmv0, _, _⟩ := hm.form
  obtain ⟨A0, cap0, hrv0, _, _⟩ := hr.1.form
  have HPL := hide (fun W (h : Only [] w W) => plan_arg W [] [] mv rv m rs U (hm.only h (by simp)) hml hmf (hr.only h (by simp)) hrl hll hf hj hU)
  have HMO := hide (fun W (h : Only [] w W) => moves_err W mv rv _ _ _ _ _ _ hmv0 hrv0 U 2 (fun W' h' => HPL.out W' (h.trans h')) (by decide))
  have HAT := hide (fun W (h : Only [] w W) => jat_ok W [] [] mv rv m rs hostN secN (hm.only h (by simp)) hml hmf (hr.only h (by simp)) hrl hll hf hj hh hT)
  rw [hj] at HRF
  clear hj hll hmv0 hrv0 
  obtain ⟨Am, cm, rfl, hcm0, hcm1⟩ := hm.form
  obtain ⟨A, cap, rfl, hcap, hmx⟩ := hr.1.form
  unfold maxLen at hmx hcm1
  generalize hnm : m.length = nm at *
  generalize hn : rs.length = n at *
  have HNM := hide hnm.symm
  have HN := hide hn.symm
  have HB := hide (Blk.new w 49 #[.slice Am nm cm, .slice A n cap])
  have HO := hide ((Only.refl [] w).alloc (.cells #[.slice Am nm cm, .slice A n cap] 49))
  clear hm hmf hr hf hhv hnm hn
  have HHN := hide hh
  have HTN := hide hT
  have hhI : ¬ (hostN : Int) < 0 := by omega
  have hhJ : ¬ (n : Int) ≤ hostN := by omega
  have htI : ¬ (secN : Int) < 0 := by omega
  have hn8 := HN8.out
  obtain ⟨Y, hY⟩ : ∃ Y : Int, Y = 8 * (nearV m (atV (rs.getD hostN zr).1 (rs.getD hostN zr).2.2 secN) : Nat) + hostN + 1 := ⟨_, rfl⟩
  rw [← hY] at HAT
  have HY := hide hY
  clear hY
  have hne : (Y != Y) = false := by simp
  go_enter Try.func4, Try.ntmps4
  go_wp2_with (first
    | (go_at_call 18; refine (HAW.out _).mono ?_; rintro e w0 ⟨rfl, rfl⟩)
    | (go_at_call 19; refine (HHV.out _ HO.out).mono ?_; rintro e w1 ⟨rfl, ho⟩; replace HO := hide (HO.out.trans ho); replace HB := hide (HB.out.only ho (by simp)); (try clear k0 k1); have k0 := HB.out.cell 0; have k1 := HB.out.cell 1; simp at k0 k1; (try (replace HX := hide (HX.out.trans ho))); (try (replace HPV := hide (HPV.out.only ho (by simp)))); clear ho)
    | (go_at_call 20; refine (HAS.out _ HO.out).mono ?_; rintro e w2 ⟨v1, v2, rs2, rfl, hms, hrs, hk, ho⟩; have HREF := hide (HRF.out w2 v1 v2 rs2 hms hrs hk); obtain ⟨A1, c1, rfl⟩ := HREF.out.2.2.2.1; obtain ⟨A2, c2, rfl⟩ := HREF.out.2.2.2.2; replace HO := hide (HO.out.trans ho); replace HB := hide (HB.out.only ho (by simp)); (try clear k0 k1); have k0 := HB.out.cell 0; have k1 := HB.out.cell 1; simp at k0 k1; (try (replace HX := hide (HX.out.trans ho))); (try (replace HPV := hide (HPV.out.only ho (by simp)))); clear ho; have HX := hide (Only.refl [] w2); clear hms hrs hk)
    | (go_at_call 21; refine (HREF.out.1 _ HX.out).mono ?_; rintro e w3 ⟨rfl, ho⟩; replace HO := hide (HO.out.trans ho); replace HB := hide (HB.out.only ho (by simp)); (try clear k0 k1); have k0 := HB.out.cell 0; have k1 := HB.out.cell 1; simp at k0 k1; (try (replace HX := hide (HX.out.trans ho))); (try (replace HPV := hide (HPV.out.only ho (by simp)))); clear ho)
    | (go_at_call 22; refine (HPL.out _ HO.out).mono ?_; rintro e w4 ⟨rfl, ho⟩; replace HO := hide (HO.out.trans ho); replace HB := hide (HB.out.only ho (by simp)); (try clear k0 k1); have k0 := HB.out.cell 0; have k1 := HB.out.cell 1; simp at k0 k1; (try (replace HX := hide (HX.out.trans ho))); (try (replace HPV := hide (HPV.out.only ho (by simp)))); clear ho)
    | (go_at_call 23; refine (HMO.out _ HO.out).mono ?_; rintro e w5 ⟨rfl, ho⟩; replace HO := hide (HO.out.trans ho); replace HB := hide (HB.out.only ho (by simp)); (try clear k0 k1); have k0 := HB.out.cell 0; have k1 := HB.out.cell 1; simp at k0 k1; (try (replace HX := hide (HX.out.trans ho))); (try (replace HPV := hide (HPV.out.only ho (by simp)))); clear ho)
    | (go_at_call 24; refine (HAT.out _ HO.out).mono ?_; rintro e w6 ⟨rfl, ho⟩; replace HO := hide (HO.out.trans ho); replace HB := hide (HB.out.only ho (by simp)); (try clear k0 k1); have k0 := HB.out.cell 0; have k1 := HB.out.cell 1; simp at k0 k1; (try (replace HX := hide (HX.out.trans ho))); (try (replace HPV := hide (HPV.out.only ho (by simp)))); clear ho)
    | (go_at_call 25; refine (HJR.out _ HO.out).mono ?_; rintro e w7 ⟨rfl, ho⟩; replace HO := hide (HO.out.trans ho); replace HB := hide (HB.out.only ho (by simp)); (try clear k0 k1); have k0 := HB.out.cell 0; have k1 := HB.out.cell 1; simp at k0 k1; (try (replace HX := hide (HX.out.trans ho))); (try (replace HPV := hide (HPV.out.only ho (by simp)))); clear ho)
    | (go_at_call 26; refine (HREF.out.2.1 _ hostN secN HX.out (by trivial) (by have := HHN.out; omega) (by have := HTN.out; omega)).mono ?_; unfold NumPost; rw [← HY.out]; rintro e w8 ⟨rfl, ho⟩; replace HO := hide (HO.out.trans ho); replace HB := hide (HB.out.only ho (by simp)); (try clear k0 k1); have k0 := HB.out.cell 0; have k1 := HB.out.cell 1; simp at k0 k1; (try (replace HX := hide (HX.out.trans ho))); (try (replace HPV := hide (HPV.out.only ho (by simp)))); clear ho))
  go_ret
  exact ⟨rfl, HO.out⟩
end
end Go.Proofs.Yteoifokmbkpbnaa

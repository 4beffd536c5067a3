import Derived.Test.YtkihjgcjapkgpaaSkyF
import Derived.Test.YtkihjgcjapkgpaaSkyH
namespace Go.Proofs.Ytkihjgcjapkgpaa
open Go.RowKit Go.Deep

theorem Try.infoPt24 : (Try.prog.info? 24).map (fun i => (i.zero, i.size, i.bytes)) = some (some (.agg #[.int .i64 0, .int .i64 0]), 2, 16) := by kernel_rfl

set_option maxRecDepth 100000 in
set_option maxHeartbeats 6400000 in
theorem skych_ok (w : World) (mv lv : Value) (m : List (Int × Int)) (s : Int × Int) (l : List Lg) (T q : Int) (hm : RdS 2 ptc w [] mv m) (hmf : ∀ p ∈ m, Fit p) (hv : RdS 3 lgc w [] lv l) (hfit : ∀ g ∈ l, Fit3 g) (hsf : Fit s) (h1 : ¬ 20 < m.length) (h2 : ¬ 10 < l.length) (hmv : mastsV m = true) (hrv : routesV s l = true) (hq1 : -9223372036854775808 ≤ q) (hq2 : q ≤ 9223372036854775807) (u : Nat) (hu : u ≤ 200) (hT : T = u) :
    Calls Try.prog 4 #[mv, .agg #[.int .i64 s.1, .int .i64 s.2, lv], .int .i64 T, .int .i64 q] w fun e w' => e = .returned (.bool true) ∧ Only [] w w' := by
  subst hT
  obtain ⟨i0, hi, hz0, hz1, hz2⟩ := info_parts Try.infoPt24
  have HPTS := hide (show ∀ W, Only [] w W → _ from fun W ho => points_any W [] mv m (hm.only ho (by simp)) (by omega))
  have HLEG := hide (show ∀ W, Only [] w W → _ from fun W ho => legs_any W [] lv s l (hv.only ho (by simp)) (by omega))
  have HMR := hide (show ∀ W v', RdS 2 ptc W [] v' m → _ from fun W v' h => masts_ref W [] v' m h (by omega))
  have HRO := hide (show ∀ W v', RdS 3 lgc W [] v' l → _ from fun W v' h => routes_ref W [] v' s l h (by omega) hfit)
  have HOF := hide (show ∀ W p, _ from fun W p => of_any W p)
  have HPOS := (routes_pos hrv).2.2
  have HRT := routes_turn q hrv
  have HTF := fit_turn q hrv
  have HMT := masts_turn q hmv
  have HCH := hide (show ∀ W, Only [] w W → Calls Try.prog 16 #[mv, .agg #[.int .i64 s.1, .int .i64 s.2, lv], .int .i64 u] W (ChPost (chs m s l u) W) from fun W ho => by
    have h := changes_ok W [] [] mv lv m s l u (hm.only ho (by simp)) (hv.only ho (by simp)) (by omega) (by omega) hmf hfit hsf hmv hrv (by omega)
    rwa [chs_min HPOS] at h)
  have HCT := hide (show ∀ W v17 v20, RdS 2 ptc W [] v17 (turnM q m) → RdS 3 lgc W [] v20 (turnL q l) → Calls Try.prog 16 #[v17, .agg #[.int .i64 (turnV s q).1, .int .i64 (turnV s q).2, v20], .int .i64 u] W (ChPost (chs m s l u) W) from fun W v17 v20 ha hb => by
    have h := changes_ok W [] [] v17 v20 (turnM q m) (turnV s q) (turnL q l) u ha hb (by rw [turnM_len]; omega) (by rw [turnL_len]; omega) (masts_fit HMT) HTF.2 HTF.1 HMT HRT (by omega)
    rwa [chs_turned, chs_min HPOS] at h)
  have HTU := hide (show ∀ W, Only [] w W → _ from fun W ho => turned_ok W [] lv s l q (hv.only ho (by simp)) (by omega) hfit hsf hrv)
  have HATF := hide (show ∀ W v' (t : Nat), t ≤ 9223372036854775807 → RdS 3 lgc W [] v' l → _ from fun W v' t ht h => at_ref W [] v' s l t h (by omega) hrv ht)
  have HNF := hide (show ∀ W v' p, okP p = true → RdS 2 ptc W [] v' m → _ from fun W v' p hp h => nearest_ref W [] v' m p h (by omega) (masts_mem hmv).1 hp (masts_mem hmv).2.1)
  have HTUN := hide (show ∀ W p, okP p = true → _ from fun W p hp => turn_ref W p q hp hq1 hq2)
  have HAOK := hide (routes_at hrv)
  have HMOK := hide (masts_mem hmv).1
  have HMV := hide hmv
  have HRV := hide hrv
  clear hmv hrv HPOS HRT HTF HMT
  obtain ⟨Am, cm, rfl, hcm, _⟩ := hm.form
  obtain ⟨A, cap, rfl, hc, _⟩ := hv.form
  obtain ⟨nm, hnm⟩ : ∃ n, n = m.length := ⟨_, rfl⟩
  obtain ⟨n, hn⟩ : ∃ n, n = l.length := ⟨_, rfl⟩
  have HNM := hide hnm
  have HN := hide hn
  rw [← hnm] at h1 hcm HPTS HCH ⊢
  rw [← hn] at h2 hc HLEG HCH HTU ⊢
  have f1 : ¬ (20 : Int) < nm := by omega
  have f2 : ¬ (10 : Int) < n := by omega
  have f3 : ¬ (200 : Int) < u := by omega
  have f4 : ¬ (u : Int) < 0 := by omega
  have f5 : ¬ (100000 : Int) < u := by omega
  have HB := hide (Blk.new w 41 #[.int .i64 s.1, .int .i64 s.2, .slice A n cap])
  have HO := hide ((Only.refl [] w).alloc (.cells #[.int .i64 s.1, .int .i64 s.2, .slice A n cap] 41))
  have HC := hide (Only.refl [] (w.alloc (.cells #[.int .i64 s.1, .int .i64 s.2, .slice A n cap] 41)))
  have HCL := hide (chs_len m s l u)
  clear hm hmf hv hfit hsf hnm hn
  unfold pt at *
  go_enter Try.func4, Try.ntmps4
  go_upto_region 5 with (go_at_call 7; refine (awake21 _).mono ?_; rintro e w1 ⟨rfl, ho⟩; (first | (have HC := hide (HC.out.trans ho)) | (have HC := hide (HC.out.drew.trans ho))); clear ho; have k0 := (HB.out.only HC.out (by simp)).cell 0; have k1 := (HB.out.only HC.out (by simp)).cell 1; have k2 := (HB.out.only HC.out (by simp)).cell 2; simp at k0 k1 k2)
  go_upto_region 6 with (go_at_call 16; refine (HCH.out _ (HO.out.trans HC.out)).mono ?_; rintro e w2 ⟨v9, rfl, hr9, ho⟩; obtain ⟨A9, c9, rfl, hc9, hm9⟩ := hr9.form; obtain ⟨n9, hn9⟩ : ∃ x, x = (chs m s l u).length := ⟨_, rfl⟩; have HN9 := hide hn9; have HR9 := hide hr9; rewrite [← hn9] at HR9 hc9 ⊢; have h201 : n9 ≤ 201 := (by have := HCL.out; omega); clear hr9 hn9; (first | (have HC := hide (HC.out.trans ho)) | (have HC := hide (HC.out.drew.trans ho))); clear ho; have k0 := (HB.out.only HC.out (by simp)).cell 0; have k1 := (HB.out.only HC.out (by simp)).cell 1; have k2 := (HB.out.only HC.out (by simp)).cell 2; simp at k0 k1 k2)
  go_upto_region 7 with (go_at_call 10; refine (HPTS.out _ (HO.out.trans HC.out)).mono ?_; rintro e w3 ⟨v11, rfl, hr11, ho⟩; (first | (have HC := hide (HC.out.trans ho)) | (have HC := hide (HC.out.drew.trans ho))); (first | (have HR9 := hide (HR9.out.only ho (by simp))) | (have HR9 := hide ((HR9.out.only (S := []) ((Only.refl [] _).drew) (by simp)).only ho (by simp)))); clear ho; have k0 := (HB.out.only HC.out (by simp)).cell 0; have k1 := (HB.out.only HC.out (by simp)).cell 1; have k2 := (HB.out.only HC.out (by simp)).cell 2; simp at k0 k1 k2; obtain ⟨A11, c11, rfl, hc11, hm11⟩ := hr11.form; have HR11 := hide hr11; rewrite [← HNM.out] at HR11 hc11 ⊢; clear hr11)
  go_upto_region 8 with (go_at_call 17; refine (HLEG.out _ (HO.out.trans HC.out)).mono ?_; rintro e w4 ⟨v12, rfl, hr12, ho⟩; have HR12 := hide hr12; clear hr12; (first | (have HC := hide (HC.out.trans ho)) | (have HC := hide (HC.out.drew.trans ho))); (first | (have HR9 := hide (HR9.out.only ho (by simp))) | (have HR9 := hide ((HR9.out.only (S := []) ((Only.refl [] _).drew) (by simp)).only ho (by simp)))); (first | (have HR11 := hide (HR11.out.only ho (by simp))) | (have HR11 := hide ((HR11.out.only (S := []) ((Only.refl [] _).drew) (by simp)).only ho (by simp)))); clear ho; have k0 := (HB.out.only HC.out (by simp)).cell 0; have k1 := (HB.out.only HC.out (by simp)).cell 1; have k2 := (HB.out.only HC.out (by simp)).cell 2; simp at k0 k1 k2)
  go_upto_region 9 with (first
    | (go_at_call 14; refine (HMR.out _ _ HR11.out).mono ?_; rintro e wq ⟨rfl, ho⟩; (first | (have HC := hide (HC.out.trans ho)) | (have HC := hide (HC.out.drew.trans ho))); (first | (have HR9 := hide (HR9.out.only ho (by simp))) | (have HR9 := hide ((HR9.out.only (S := []) ((Only.refl [] _).drew) (by simp)).only ho (by simp)))); (first | (have HR11 := hide (HR11.out.only ho (by simp))) | (have HR11 := hide ((HR11.out.only (S := []) ((Only.refl [] _).drew) (by simp)).only ho (by simp)))); (first | (have HR12 := hide (HR12.out.only ho (by simp))) | (have HR12 := hide ((HR12.out.only (S := []) ((Only.refl [] _).drew) (by simp)).only ho (by simp)))); clear ho; have k0 := (HB.out.only HC.out (by simp)).cell 0; have k1 := (HB.out.only HC.out (by simp)).cell 1; have k2 := (HB.out.only HC.out (by simp)).cell 2; simp at k0 k1 k2; rw [HMV.out])
    | (go_at_call 12; refine (HOF.out _ s).mono ?_; rintro e wq ⟨rfl, ho⟩; (first | (have HC := hide (HC.out.trans ho)) | (have HC := hide (HC.out.drew.trans ho))); (first | (have HR9 := hide (HR9.out.only ho (by simp))) | (have HR9 := hide ((HR9.out.only (S := []) ((Only.refl [] _).drew) (by simp)).only ho (by simp)))); (first | (have HR11 := hide (HR11.out.only ho (by simp))) | (have HR11 := hide ((HR11.out.only (S := []) ((Only.refl [] _).drew) (by simp)).only ho (by simp)))); (first | (have HR12 := hide (HR12.out.only ho (by simp))) | (have HR12 := hide ((HR12.out.only (S := []) ((Only.refl [] _).drew) (by simp)).only ho (by simp)))); clear ho; have k0 := (HB.out.only HC.out (by simp)).cell 0; have k1 := (HB.out.only HC.out (by simp)).cell 1; have k2 := (HB.out.only HC.out (by simp)).cell 2; simp at k0 k1 k2)
    | (go_at_call 18; refine (HRO.out _ _ HR12.out).mono ?_; rintro e wq ⟨rfl, ho⟩; (first | (have HC := hide (HC.out.trans ho)) | (have HC := hide (HC.out.drew.trans ho))); (first | (have HR9 := hide (HR9.out.only ho (by simp))) | (have HR9 := hide ((HR9.out.only (S := []) ((Only.refl [] _).drew) (by simp)).only ho (by simp)))); (first | (have HR11 := hide (HR11.out.only ho (by simp))) | (have HR11 := hide ((HR11.out.only (S := []) ((Only.refl [] _).drew) (by simp)).only ho (by simp)))); (first | (have HR12 := hide (HR12.out.only ho (by simp))) | (have HR12 := hide ((HR12.out.only (S := []) ((Only.refl [] _).drew) (by simp)).only ho (by simp)))); clear ho; have k0 := (HB.out.only HC.out (by simp)).cell 0; have k1 := (HB.out.only HC.out (by simp)).cell 1; have k2 := (HB.out.only HC.out (by simp)).cell 2; simp at k0 k1 k2; rw [HRV.out]))
  go_wp2_with fail
  generalize wq = wA at *
  go_loopw [15, 13, 14] (fun sec k last wr => ∃ (t K : Nat) (L : Int), t ≤ u + 1 ∧ K ≤ t ∧ Hid (K = (preV m s l t).length) ∧ Hid (L = lastV m s l t) ∧ sec = .int .i64 t ∧ k = .int .i64 K ∧ last = .int .i64 L ∧ Hid (Only [] wA wr)) (fun sec _ _ _ => (u + 1) - (intOf sec).toNat)
  case atStart => exact ⟨0, 0, -1, Nat.zero_le _, Nat.le_refl _, hide rfl, hide rfl, rfl, rfl, rfl, hide (Only.refl _ _)⟩
  case round =>
    obtain ⟨t, K, L, htu, hKt, hK, hL, rfl, rfl, rfl, hO⟩ := hrel
    have HOA := hO
    (first | (have HC := hide (HC.out.trans hO.out)) | (have HC := hide (HC.out.drew.trans hO.out))); (first | (have HR9 := hide (HR9.out.only hO.out (by simp))) | (have HR9 := hide ((HR9.out.only (S := []) ((Only.refl [] _).drew) (by simp)).only hO.out (by simp)))); (first | (have HR11 := hide (HR11.out.only hO.out (by simp))) | (have HR11 := hide ((HR11.out.only (S := []) ((Only.refl [] _).drew) (by simp)).only hO.out (by simp)))); (first | (have HR12 := hide (HR12.out.only hO.out (by simp))) | (have HR12 := hide ((HR12.out.only (S := []) ((Only.refl [] _).drew) (by simp)).only hO.out (by simp)))); have k0 := (HB.out.only HC.out (by simp)).cell 0; have k1 := (HB.out.only HC.out (by simp)).cell 1; have k2 := (HB.out.only HC.out (by simp)).cell 2; simp at k0 k1 k2
    by_cases hlt : t ≤ u
    · have hlt' : (t : Int) ≤ u := by omega
      have HNEW := hide (@pre_at m s l t u hlt)
      have HPS := hide (@pre_same m s l t)
      have HPN := hide (@pre_new m s l t)
      have HLS := hide (show lastV m s l (t + 1) = ((nearV m (atV s l t) : Nat) : Int) from rfl)
      have hx := HNF.out
      have HN1 := hide (show ∀ W v', RdS 2 ptc W [] v' m → _ from fun W v' h => HNF.out W v' (atV s l t) (HAOK.out t) h)
      have HA1 := hide (show ∀ W v', RdS 3 lgc W [] v' l → _ from fun W v' h => HATF.out W v' t (by omega) h)
      clear hx
      generalize hna : nearV m (atV s l t) = na at *
      clear hna
      generalize atV s l t = X at *

      go_upto_region 18 with (first
        | (go_at_call 12; refine (HOF.out _ s).mono ?_; rintro e wq ⟨rfl, ho⟩; have HOA := hide (HOA.out.trans ho); (first | (have HC := hide (HC.out.trans ho)) | (have HC := hide (HC.out.drew.trans ho))); (first | (have HR9 := hide (HR9.out.only ho (by simp))) | (have HR9 := hide ((HR9.out.only (S := []) ((Only.refl [] _).drew) (by simp)).only ho (by simp)))); (first | (have HR11 := hide (HR11.out.only ho (by simp))) | (have HR11 := hide ((HR11.out.only (S := []) ((Only.refl [] _).drew) (by simp)).only ho (by simp)))); (first | (have HR12 := hide (HR12.out.only ho (by simp))) | (have HR12 := hide ((HR12.out.only (S := []) ((Only.refl [] _).drew) (by simp)).only ho (by simp)))); clear ho; have k0 := (HB.out.only HC.out (by simp)).cell 0; have k1 := (HB.out.only HC.out (by simp)).cell 1; have k2 := (HB.out.only HC.out (by simp)).cell 2; simp at k0 k1 k2)
        | (go_at_call 19; refine (HA1.out _ _ HR12.out).mono ?_; rintro e wq ⟨he, ho⟩; dsimp only [pt] at he; subst he; have HOA := hide (HOA.out.trans ho); (first | (have HC := hide (HC.out.trans ho)) | (have HC := hide (HC.out.drew.trans ho))); (first | (have HR9 := hide (HR9.out.only ho (by simp))) | (have HR9 := hide ((HR9.out.only (S := []) ((Only.refl [] _).drew) (by simp)).only ho (by simp)))); (first | (have HR11 := hide (HR11.out.only ho (by simp))) | (have HR11 := hide ((HR11.out.only (S := []) ((Only.refl [] _).drew) (by simp)).only ho (by simp)))); (first | (have HR12 := hide (HR12.out.only ho (by simp))) | (have HR12 := hide ((HR12.out.only (S := []) ((Only.refl [] _).drew) (by simp)).only ho (by simp)))); clear ho; have k0 := (HB.out.only HC.out (by simp)).cell 0; have k1 := (HB.out.only HC.out (by simp)).cell 1; have k2 := (HB.out.only HC.out (by simp)).cell 2; simp at k0 k1 k2)
        | (go_at_call 15; refine (HN1.out _ _ HR11.out).mono ?_; rintro e wq ⟨rfl, ho⟩; have HOA := hide (HOA.out.trans ho); (first | (have HC := hide (HC.out.trans ho)) | (have HC := hide (HC.out.drew.trans ho))); (first | (have HR9 := hide (HR9.out.only ho (by simp))) | (have HR9 := hide ((HR9.out.only (S := []) ((Only.refl [] _).drew) (by simp)).only ho (by simp)))); (first | (have HR11 := hide (HR11.out.only ho (by simp))) | (have HR11 := hide ((HR11.out.only (S := []) ((Only.refl [] _).drew) (by simp)).only ho (by simp)))); (first | (have HR12 := hide (HR12.out.only ho (by simp))) | (have HR12 := hide ((HR12.out.only (S := []) ((Only.refl [] _).drew) (by simp)).only ho (by simp)))); clear ho; have k0 := (HB.out.only HC.out (by simp)).cell 0; have k1 := (HB.out.only HC.out (by simp)).cell 1; have k2 := (HB.out.only HC.out (by simp)).cell 2; simp at k0 k1 k2))
      by_cases hsame : (na : Int) = L
      · have HS := hide hsame
        subst hsame
        go_wp2_with fail
        go_roundw
        case rel => exact ⟨t + 1, K, na, by omega, by omega, hide (by rw [HPS.out hL.out]; exact hK.out), hide HLS.out.symm, by go_num, rfl, rfl, HOA⟩
        case measure => simp [intOf]; omega
      · have HS := hide (show ¬ (na : Int) = lastV m s l t by rw [← hL.out]; exact hsame)
        have hat := HNEW.out HS.out
        rw [← hK.out, ← HN9.out] at hat
        obtain ⟨hk9, hg9⟩ := hat
        have hk9' : ¬ (K : Int) = n9 := by omega
        have hk8' : (K : Int) < n9 := by omega
        obtain ⟨g9, o9, rfl, _, _⟩ := HR9.out.addr (by rw [← HN9.out]; omega)
        obtain ⟨c1, c2⟩ := pts_cell HR9.out (show K < (chs m s l u).length by rw [← HN9.out]; exact hk9)
        rw [hg9] at c1 c2
        simp only at c1 c2
        clear hg9
        go_wp2_with fail
        go_roundw
        case rel => exact ⟨t + 1, K + 1, na, by omega, by omega, hide (by rw [HPN.out HS.out, List.length_append, List.length_singleton, ← hK.out]), hide HLS.out.symm, by go_num, by go_num, rfl, HOA⟩
        case measure => simp [intOf]; omega
    · have hlt' : ¬ (t : Int) ≤ u := by omega
      obtain rfl : t = u + 1 := by omega
      have HKE := hide (show K = n9 from hK.out.trans HN9.out.symm)
      obtain rfl := HKE.out
      clear hK hL
      generalize wr = wE at *
      have HOW0 := hide (show (wE.alloc (.cells #[] 24)).ownsRow wE.heap.size 24 2 (.slice (some ⟨wE.heap.size, 0, none⟩) 0 0) 0 [] from ⟨rfl, .inr ⟨wE.heap.size, 0, #[], rfl, Nat.le_refl _, heap_alloc_new wE _, Nat.le_refl _, Nat.zero_le _, rfl, rfl⟩⟩)
      have HOG := hide ((Only.refl [] wE).alloc (.cells #[] 24))
      clear k0 k1 k2
      go_wp2_with fail
      go_loopw [18, 17] (fun i v wz => ∃ k : Nat, k ≤ nm ∧ i = .int .i64 k ∧ Hid (wz.ownsRow wE.heap.size 24 2 v k ((turnM q (m.take k)).flatMap ptc)) ∧ Hid (Only [] wE wz)) (fun i _ _ => nm - (intOf i).toNat)
      case atStart => exact ⟨0, Nat.zero_le _, rfl, HOW0, HOG⟩
      case round =>
        obtain ⟨k, hk, rfl, how, hO2⟩ := hrel
        (first | (have HC := hide (HC.out.trans hO2.out)) | (have HC := hide (HC.out.drew.trans hO2.out))); (first | (have HR9 := hide (HR9.out.only hO2.out (by simp))) | (have HR9 := hide ((HR9.out.only (S := []) ((Only.refl [] _).drew) (by simp)).only hO2.out (by simp)))); (first | (have HR11 := hide (HR11.out.only hO2.out (by simp))) | (have HR11 := hide ((HR11.out.only (S := []) ((Only.refl [] _).drew) (by simp)).only hO2.out (by simp)))); (first | (have HR12 := hide (HR12.out.only hO2.out (by simp))) | (have HR12 := hide ((HR12.out.only (S := []) ((Only.refl [] _).drew) (by simp)).only hO2.out (by simp)))); have k0 := (HB.out.only HC.out (by simp)).cell 0; have k1 := (HB.out.only HC.out (by simp)).cell 1; have k2 := (HB.out.only HC.out (by simp)).cell 2; simp at k0 k1 k2
        by_cases hlt2 : k < nm
        · have hlt2' : (k : Int) < nm := by omega
          obtain ⟨g, o, rfl, _, hg⟩ := HR11.out.addr (by rw [← HNM.out]; omega)
          obtain ⟨c1, c2⟩ := pts_cell HR11.out (show k < m.length by rw [← HNM.out]; exact hlt2)
          have HTK := hide (turnM_take q m (show k < m.length by rw [← HNM.out]; exact hlt2))
          have HOKP := hide (HMOK.out (m.getD k (0, 0)) (by rw [List.getD_eq_getElem?_getD, List.getElem?_eq_getElem (show k < m.length by rw [← HNM.out]; exact hlt2)]; exact List.getElem_mem _))
          generalize m.getD k (0, 0) = p at *
          have HTU1 := hide (show ∀ W, _ from fun W => HTUN.out W p HOKP.out)
          unfold pt at HTU1
          go_wp2_with (first
            | (go_at_call 20; refine (HTU1.out _).mono ?_; rintro e w2 ⟨he, ho2⟩; dsimp only [pt] at he; subst he; have HOQ := hide (((hO2.out.trans ho2).alloc (.cells #[.int .i64 (turnV p q).1, .int .i64 (turnV p q).2] 33)).alloc (.cells #[.int .i64 (turnV p q).1, .int .i64 (turnV p q).2] 24)); have HOW2 := hide (World.ownsRow.alloc (World.ownsRow.alloc (own_only how.out ho2 (by simp)) (.cells #[.int .i64 (turnV p q).1, .int .i64 (turnV p q).2] 33)) (.cells #[.int .i64 (turnV p q).1, .int .i64 (turnV p q).2] 24)); have hRN := reads_new (w2.alloc (.cells #[.int .i64 (turnV p q).1, .int .i64 (turnV p q).2] 33)) 24 (ptc (turnV p q)) (w2.heap.size + 2) 2 rfl (by simp); rw [World.size_alloc] at hRN; have HRN := hide hRN; clear ho2 hRN)
            | (at_builtin; refine wpList_append_any _ rfl (.tmp 148) (.tmp 154) 22 rfl wE.heap.size 24 i0 (.agg #[.int .i64 0, .int .i64 0]) 2 16 Try.underlying22 hi hz0 hz1 hz2 rfl (by decide) _ k _ rfl HOW2.out (w2.heap.size + 2) (some ⟨w2.heap.size + 1, 0, none⟩) 1 1 (ptc (turnV p q)) rfl HRN.out (by simp [ptc, Value.oneCell']) (by unfold maxLen; omega) (by omega) HOQ.out.size ?_; intro v1 w3 hown1 hg1 _; have HOW3 := hide (own_snoc hown1); have HO3 := hide (HOQ.out.grown hg1 (fun j hj => .inr (own_block_ge HOW2.out hj))); clear hown1 hg1))
          go_roundw
          case rel => exact ⟨k + 1, by omega, by go_num, hide (by rw [HTK.out]; exact HOW3.out), HO3⟩
          case measure => simp [intOf]; omega
        · have hlt2' : ¬ (k : Int) < nm := by omega
          obtain rfl : k = nm := by omega
          have HR := hide (RdS.of_own (N := []) ptc_len (by omega) how.out (by simp)).1
          rw [HNM.out, List.take_length] at HR
          obtain ⟨A17, c17, hv17, _, _⟩ := HR.out.form
          subst hv17
          have HR17 := HR
          rewrite [turnM_len, ← HNM.out] at HR17
          rewrite [turnM_len, ← HNM.out]
          go_upto_region 32 with (go_at_call 21; refine (HTU.out _ (HO.out.trans HC.out)).mono ?_; rintro e wt ⟨v20, rfl, hr20, ho⟩; obtain ⟨A20, c20, rfl, hc20, hm20⟩ := hr20.form; generalize hn20 : (turnL q l).length = n20 at *; have HR20 := hide (show RdS 3 lgc (wt.alloc (.cells #[.int .i64 (turnV s q).1, .int .i64 (turnV s q).2, .slice A20 n20 c20] 41)) [] (.slice A20 n20 c20) (turnL q l) from hr20.only ((Only.refl [] _).alloc _) (by simp)); (first | (have HC := hide (HC.out.trans ho)) | (have HC := hide (HC.out.drew.trans ho))); (first | (have HR9 := hide (HR9.out.only ho (by simp))) | (have HR9 := hide ((HR9.out.only (S := []) ((Only.refl [] _).drew) (by simp)).only ho (by simp)))); (first | (have HR17 := hide (HR17.out.only ho (by simp))) | (have HR17 := hide ((HR17.out.only (S := []) ((Only.refl [] _).drew) (by simp)).only ho (by simp)))); have HC := hide (HC.out.alloc (.cells #[.int .i64 (turnV s q).1, .int .i64 (turnV s q).2, .slice A20 n20 c20] 41)); have HR9 := hide (HR9.out.only (S := []) ((Only.refl [] _).alloc (.cells #[.int .i64 (turnV s q).1, .int .i64 (turnV s q).2, .slice A20 n20 c20] 41)) (by simp)); have HR17 := hide (HR17.out.only (S := []) ((Only.refl [] _).alloc (.cells #[.int .i64 (turnV s q).1, .int .i64 (turnV s q).2, .slice A20 n20 c20] 41)) (by simp)); have HB20 := hide (Blk.new wt 41 #[.int .i64 (turnV s q).1, .int .i64 (turnV s q).2, .slice A20 n20 c20]); clear ho; have k0 := (HB.out.only HC.out (by simp)).cell 0; have k1 := (HB.out.only HC.out (by simp)).cell 1; have k2 := (HB.out.only HC.out (by simp)).cell 2; have t0 := HB20.out.cell 0; have t1 := HB20.out.cell 1; have t2 := HB20.out.cell 2; simp at k0 k1 k2 t0 t1 t2; clear hr20 hn20)
          go_upto_region 33 with (go_at_call 16; refine (HCT.out _ _ _ HR17.out HR20.out).mono ?_; rintro e wc ⟨v22, rfl, hr22, ho⟩; obtain ⟨A22, c22, rfl, hc22, hm22⟩ := hr22.form; have HR22 := hide hr22; rewrite [← HN9.out] at HR22 hc22 ⊢; clear hr22; (first | (have HC := hide (HC.out.trans ho)) | (have HC := hide (HC.out.drew.trans ho))); (first | (have HR9 := hide (HR9.out.only ho (by simp))) | (have HR9 := hide ((HR9.out.only (S := []) ((Only.refl [] _).drew) (by simp)).only ho (by simp)))); (first | (have HR17 := hide (HR17.out.only ho (by simp))) | (have HR17 := hide ((HR17.out.only (S := []) ((Only.refl [] _).drew) (by simp)).only ho (by simp)))); clear ho)
          go_wp2_with fail
          generalize wc = wF at *
          go_loopw [24] (fun i wz => ∃ k : Nat, k ≤ K ∧ i = .int .i64 k ∧ Hid (Only [] wF wz)) (fun i _ => K - (intOf i).toNat)
          case atStart => exact ⟨0, Nat.zero_le _, rfl, hide (Only.refl _ _)⟩
          case round =>
            obtain ⟨j, hj, rfl, hO3⟩ := hrel
            (first | (have HC := hide (HC.out.trans hO3.out)) | (have HC := hide (HC.out.drew.trans hO3.out))); (first | (have HR9 := hide (HR9.out.only hO3.out (by simp))) | (have HR9 := hide ((HR9.out.only (S := []) ((Only.refl [] _).drew) (by simp)).only hO3.out (by simp)))); (first | (have HR22 := hide (HR22.out.only hO3.out (by simp))) | (have HR22 := hide ((HR22.out.only (S := []) ((Only.refl [] _).drew) (by simp)).only hO3.out (by simp))))
            by_cases hlt3 : j < K
            · have hlt3' : (j : Int) < K := by omega
              obtain ⟨g9, o9, rfl, _, _⟩ := HR9.out.addr (by rw [← HN9.out]; omega)
              obtain ⟨g2, o2, rfl, _, _⟩ := HR22.out.addr (by rw [← HN9.out]; omega)
              obtain ⟨c1, c2⟩ := pts_cell HR9.out (show j < (chs m s l u).length by rw [← HN9.out]; exact hlt3)
              obtain ⟨d1, d2⟩ := pts_cell HR22.out (show j < (chs m s l u).length by rw [← HN9.out]; exact hlt3)
              generalize (chs m s l u).getD j (0, 0) = p at *
              go_wp2_with fail
              go_quiet (fail)
              go_wp2_with fail
              go_roundw
              case rel => exact ⟨j + 1, by omega, by go_num, hide (hO3.out.drewN _)⟩
              case measure => simp [intOf]; omega
            · have hlt3' : ¬ (j : Int) < K := by omega
              obtain rfl : j = K := by omega
              go_wp2_with fail
              go_ret
              exact ⟨rfl, HO.out.trans HC.out⟩
end Go.Proofs.Ytkihjgcjapkgpaa

/-
  Walks and plain words (texts Ro11, Ro12). No condition beyond those that each theorem states.
-/
import Derived.Test.YteoifokmbkpbnaaQ12
namespace Go.Proofs.Yteoifokmbkpbnaa
section
open Go.RowKit Go.Deep

def za : Ac := (0, 0, 0, 0)
def cntM (L : List Ac) : Nat := (L.filter (fun a => a.1 == 6)).length
theorem cnt_take (L : List Ac) {k : Nat} (h : k < L.length) : cntM (L.take (k + 1)) = cntM (L.take k) + (if (L.getD k za).1 = 6 then 1 else 0) := by
  unfold cntM
  rw [take_succ_getD L za h, List.filter_append, List.length_append]
  congr 1
  by_cases h6 : (L.getD k za).1 = 6
  · rw [if_pos h6, List.filter_cons_of_pos (by simpa using h6)]; rfl
  · rw [if_neg h6, List.filter_cons_of_neg (by simpa using h6)]; rfl
theorem cnt_le (L : List Ac) : cntM L ≤ L.length := List.length_filter_le _ _
theorem acts_cell {w : World} {N : List Nat} {g o n cap : Nat} {l : List Ac} (h : RdS 5 acC w N (.slice (some ⟨g, o, none⟩) n cap) l) {i : Nat} (hi : i < l.length) :
    w.cell? ⟨g, o + i * 5, none⟩ = some (.int .i64 (l.getD i za).1) ∧ w.cell? ⟨g, o + i * 5 + 1, none⟩ = some (.int .i64 (l.getD i za).2.1) ∧ w.cell? ⟨g, o + i * 5 + 2, none⟩ = some (.int .i64 (l.getD i za).2.2.1) ∧ w.cell? ⟨g, o + i * 5 + 3, none⟩ = some (.int .i64 (l.getD i za).2.2.2) ∧ w.cell? ⟨g, o + i * 5 + 4, none⟩ = some (.slice none 0 0) := by
  have h0 := h.cell (get_lt l za hi) (j := 0) (u := .int .i64 (l.getD i za).1) rfl
  have h1 := h.cell (get_lt l za hi) (j := 1) (u := .int .i64 (l.getD i za).2.1) rfl
  have h2 := h.cell (get_lt l za hi) (j := 2) (u := .int .i64 (l.getD i za).2.2.1) rfl
  have h3 := h.cell (get_lt l za hi) (j := 3) (u := .int .i64 (l.getD i za).2.2.2) rfl
  have h4 := h.cell (get_lt l za hi) (j := 4) (u := .slice none 0 0) rfl
  exact ⟨h0, by rw [Nat.add_assoc]; exact h1, by rw [Nat.add_assoc]; exact h2, by rw [Nat.add_assoc]; exact h3, by rw [Nat.add_assoc]; exact h4⟩

set_option maxRecDepth 100000 in
set_option maxHeartbeats 3200000 in
theorem moves_err (w : World) (mv rv : Value) (A1 A2 : Option Addr) (n1 c1 n2 c2 : Nat) (hmv : mv = .slice A1 n1 c1) (hrv : rv = .slice A2 n2 c2) (U c : Int) (hp : ∀ W, Only [] w W → Calls Try.prog 22 #[.agg #[mv, rv], .int .i64 U] W (NoPost c W)) (hc : c ≠ 0) : Calls Try.prog 23 #[.agg #[mv, rv], .int .i64 U] w (TwoPost 0 c w) := by
  subst hmv hrv
  have HP := hide hp
  have hcb : (c != 0) = true := bne_iff_ne.2 hc
  have HO := hide ((Only.refl [] w).alloc (.cells #[.slice A1 n1 c1, .slice A2 n2 c2] 49))
  clear hp hc
  go_enter Try.func23, Try.ntmps23
  go_wp2_with (go_at_call 22; refine (HP.out _ HO.out).mono ?_; rintro e w1 ⟨rfl, ho⟩; replace HO := hide (HO.out.trans ho); clear ho)
  go_ret2
  exact twopost rfl rfl HO.out
set_option maxRecDepth 100000 in
set_option maxHeartbeats 3200000 in
theorem moves_ok (w : World) (mv rv : Value) (A1 A2 : Option Addr) (n1 c1 n2 c2 : Nat) (hmv : mv = .slice A1 n1 c1) (hrv : rv = .slice A2 n2 c2) (U : Int) (L : List Ac) (hL : L.length ≤ 100000) (hp : ∀ W, Only [] w W → Calls Try.prog 22 #[.agg #[mv, rv], .int .i64 U] W (PlanPost L W)) : Calls Try.prog 23 #[.agg #[mv, rv], .int .i64 U] w (TwoPost (cntM L : Nat) 0 w) := by
  subst hmv hrv
  have HP := hide hp
  have HO := hide ((Only.refl [] w).alloc (.cells #[.slice A1 n1 c1, .slice A2 n2 c2] 49))
  clear hp
  obtain ⟨q, hq⟩ : ∃ q, q = L.length := ⟨_, rfl⟩
  have HQ := hide hq
  rw [← hq] at hL
  clear hq
  go_enter Try.func23, Try.ntmps23
  go_upto_region 4 with (go_at_call 22; refine (HP.out _ HO.out).mono ?_; rintro e w1 ⟨v, rfl, hrd, ho⟩; replace HO := hide (HO.out.trans ho); have HV := hide hrd; obtain ⟨Av, cv, rfl, _, _⟩ := hrd.form; clear ho hrd)
  rw [← HQ.out] at HV ⊢
  go_wp2_with fail
  go_loopw [22, 8] (fun i v wr => ∃ k : Nat, k ≤ q ∧ i = .int .i64 k ∧ v = .int .i64 (cntM (L.take k) : Nat) ∧ Hid (Only [] w1 wr)) (fun i _ _ => q - (intOf i).toNat)
  case atStart => exact ⟨0, Nat.zero_le _, rfl, rfl, hide (Only.refl _ _)⟩
  case round =>
    obtain ⟨k, hk, rfl, rfl, ho⟩ := hrel
    by_cases hlt : k < q
    · have hlt' : (k : Int) < q := by omega
      obtain ⟨g, o, rfl, _, _⟩ := HV.out.addr (by rw [← HQ.out]; omega)
      have hce := acts_cell (HV.out.only ho.out (by simp)) (show k < L.length by rw [← HQ.out]; exact hlt)
      obtain ⟨d0, d1, d2, d3, d4⟩ := hce
      have HCT := hide (cnt_take L (show k < L.length by rw [← HQ.out]; exact hlt))
      have hcl : cntM (L.take k) ≤ 100000 := Nat.le_trans (cnt_le _) (by rw [List.length_take]; have := HQ.out; omega)
      generalize L.getD k za = a at *
      obtain ⟨a0, a1, a2, a3⟩ := a
      simp only at d0 d1 d2 d3 HCT
      generalize cntM (L.take k) = cn at *
      by_cases h6 : a0 = 6
      · subst h6
        rw [if_pos rfl] at HCT
        go_wp2_with fail
        go_roundw
        case rel => exact ⟨k + 1, by omega, by go_num, by rw [HCT.out]; go_num, hide (ho.out.alloc _)⟩
        case measure => simp [intOf] <;> omega
      · have h6b : (a0 == 6) = false := beq_eq_false_iff_ne.2 h6
        rw [if_neg h6] at HCT
        clear h6
        go_wp2_with fail
        go_roundw
        case rel => exact ⟨k + 1, by omega, by go_num, by rw [HCT.out]; go_num, hide (ho.out.alloc _)⟩
        case measure => simp [intOf] <;> omega
    · have hlt' : ¬ (k : Int) < q := by omega
      obtain rfl : q = k := by omega
      have HE := hide (show cntM (L.take q) = cntM L by rw [HQ.out, List.take_length])
      generalize cntM (L.take q) = cn at *
      go_wp2_with fail
      go_ret2
      exact twopost (by rw [HE.out]) rfl (HO.out.trans ho.out)
theorem key_getD {rs rs' : List Rt} (h : rs'.map rkey = rs.map rkey) (k : Nat) : (rs'.getD k zr).1 = (rs.getD k zr).1 ∧ (rs'.getD k zr).2.2 = (rs.getD k zr).2.2 := by
  have e : ∀ l : List Rt, rkey (l.getD k zr) = (l.map rkey).getD k (rkey zr) := fun l => by
    rw [List.getD_eq_getElem?_getD, List.getD_eq_getElem?_getD, List.getElem?_map]
    cases l[k]? <;> rfl
  have h1 := (e rs').trans ((by rw [h] : (rs'.map rkey).getD k (rkey zr) = (rs.map rkey).getD k (rkey zr)).trans (e rs).symm)
  exact ⟨congrArg (·.1) h1, congrArg (·.2) h1⟩
theorem key_len {rs rs' : List Rt} (h : rs'.map rkey = rs.map rkey) : rs'.length = rs.length := by
  have := congrArg List.length h
  simpa using this
theorem key_mem {rs rs' : List Rt} (h : rs'.map rkey = rs.map rkey) {r : Rt} (hr : r ∈ rs') : ∃ q ∈ rs, q.1 = r.1 ∧ q.2.2 = r.2.2 := by
  have h1 : rkey r ∈ rs.map rkey := h ▸ List.mem_map_of_mem hr
  obtain ⟨q, hq, he⟩ := List.mem_map.1 h1
  exact ⟨q, hq, congrArg (·.1) he, congrArg (·.2) he⟩
theorem jr_key {m : List (Int × Int)} {rs rs' : List Rt} (h : rs'.map rkey = rs.map rkey) : jrV m rs' = jrV m rs := by
  have e : ∀ l : List Rt, (l.all fun r => routesV r.1 r.2.2) = ((l.map rkey).all fun p => routesV p.1 p.2) := fun l => by rw [List.all_map]; rfl
  unfold jrV
  rw [key_len h, e rs', e rs, h]
theorem hosts_key {m : List (Int × Int)} {rs rs' : List Rt} (h : rs'.map rkey = rs.map rkey) (t : Nat) : ∀ k, hostsV m rs' t k = hostsV m rs t k
  | 0 => rfl
  | k + 1 => by
    have hk := key_getD h k
    rw [hostsV, hostsV, hosts_key h t k]
    unfold chgB moveV nearAt
    rw [hk.1, hk.2]
theorem plan_key {m : List (Int × Int)} {rs rs' : List Rt} (h : rs'.map rkey = rs.map rkey) : ∀ t, planK m rs' t = planK m rs t
  | 0 => rfl
  | t + 1 => by rw [planK, planK, plan_key h t, hosts_key h, key_len h]
theorem refs_of {w5 : World} {v1 v2 : Value} {m : List (Int × Int)} {rs rs' : List Rt} (hms : RdS 2 ptc w5 [] v1 m) (hrs : RdR w5 [] v2 rs') (hk : rs'.map rkey = rs.map rkey) (hml : m.length ≤ 1000) (hrl : rs.length ≤ 1000) (hll : ∀ r ∈ rs, r.2.2.length ≤ 1000) (hf : ∀ r ∈ rs, FitR r) :
    (∀ W, Only [] w5 W → Calls Try.prog 21 #[v1, v2] W (AndPost (jrV m rs) W)) ∧
    (∀ W host T, Only [] w5 W → jrV m rs = true → host < rs.length → T ≤ 9223372036854775807 → Calls Try.prog 26 #[v1, v2, .int .i64 (host : Nat), .int .i64 (T : Nat)] W (NumPost (8 * (nearV m (atV (rs.getD host zr).1 (rs.getD host zr).2.2 T) : Nat) + host + 1) W)) ∧
    (∀ W U, Only [] w5 W → jrV m rs = true → rs.length ≤ 8 → U ≤ 1000 → Calls Try.prog 27 #[v1, v2, .int .i64 (U : Nat)] W (ListPost 5 acC (planK m rs (U + 1)) W)) ∧
    (∃ A c, v1 = .slice A m.length c) ∧ ∃ A c, v2 = .slice A rs.length c := by
  have hl := key_len hk
  have hll' : ∀ r ∈ rs', r.2.2.length ≤ 1000 := fun r hr => by
    obtain ⟨q, hq, _, h2⟩ := key_mem hk hr
    rw [← h2]; exact hll q hq
  have hf' : ∀ r ∈ rs', FitR r := fun r hr => by
    obtain ⟨q, hq, h1, h2⟩ := key_mem hk hr
    have := hf q hq
    unfold FitR at this ⊢
    rwa [h1, h2] at this
  refine ⟨fun W h => ?_, fun W host T h hj hh hT => ?_, fun W U h hj h8 hU => ?_, ?_, ?_⟩
  · rw [← jr_key hk]
    exact ref_right W [] [] v1 v2 m rs' (hms.only h (by simp)) hml (hrs.only h (by simp)) (by omega) hll' hf'
  · have := ref_at W [] [] v1 v2 m rs' host T (hms.only h (by simp)) (hrs.only h (by simp)) (by omega) hll' (by rw [jr_key hk]; exact hj) (by omega) hT
    rwa [(key_getD hk host).1, (key_getD hk host).2] at this
  · rw [← plan_key hk]
    exact ref_plan W [] [] v1 v2 m rs' U (hms.only h (by simp)) (hrs.only h (by simp)) (by omega) hll' (by rw [jr_key hk]; exact hj) (by omega) hU
  · obtain ⟨A, c, h, _, _⟩ := hms.form
    exact ⟨A, c, h⟩
  · obtain ⟨A, c, h, _, _⟩ := hrs.1.form
    exact ⟨A, c, by rw [h, hl]⟩
end
section
open Go.RowKit Go.Deep

theorem heavy_no {m : List (Int × Int)} {rs : List Rt} (h : heavyV m rs = false) : m.length ≤ 1000 ∧ rs.length ≤ 1000 ∧ ∀ r ∈ rs, r.2.2.length ≤ 1000 := by
  unfold heavyV at h
  rw [Bool.or_eq_false_iff, Bool.or_eq_false_iff, List.any_eq_false] at h
  obtain ⟨⟨h1, h2⟩, h3⟩ := h
  have h1 := of_decide_eq_false h1
  have h2 := of_decide_eq_false h2
  refine ⟨by omega, by omega, fun r hr => ?_⟩
  have := h3 r hr
  simp only [decide_eq_true_eq] at this
  omega
set_option maxRecDepth 100000 in
set_option maxHeartbeats 12800000 in
theorem rp_heavy (w : World) (mv rv : Value) (m : List (Int × Int)) (rs : List Rt) (U host sec : Int) (hm : RdS 2 ptc w [] mv m) (hmf : ∀ p ∈ m, Fit p) (hr : RdR w [] rv rs) (hf : ∀ r ∈ rs, FitR r) (hhv : heavyV m rs = true) :
    Calls Try.prog 4 #[.agg #[mv, rv], .int .i64 U, .int .i64 host, .int .i64 sec] w fun e w' => e = .returned (.bool true) ∧ Only [] w w' := by
  have HAW := hide (fun W => awake22 W)
  have HHV := hide (fun W (h : Only [] w W) => heavy_any W mv rv m rs (hm.only h (by simp)) (hr.only h (by simp)))
  rw [hhv] at HHV
  obtain ⟨Am, cm, rfl, hcm0, hcm1⟩ := hm.form
  obtain ⟨A, cap, rfl, hcap, hmx⟩ := hr.1.form
  unfold maxLen at hmx hcm1
  generalize hnm : m.length = nm at *
  generalize hn : rs.length = n at *
  have HNM := hide hnm.symm
  have HN := hide hn.symm
  have HB := hide (Blk.new w 49 #[.slice Am nm cm, .slice A n cap])
  have HO := hide ((Only.refl [] w).alloc (.cells #[.slice Am nm cm, .slice A n cap] 49))
  clear hm hmf hr hf hhv hnm hn
  go_enter Try.func4, Try.ntmps4
  go_wp2_with (first
    | (go_at_call 18; refine (HAW.out _).mono ?_; rintro e w0 ⟨rfl, rfl⟩)
    | (go_at_call 19; refine (HHV.out _ HO.out).mono ?_; rintro e w1 ⟨rfl, ho⟩; replace HO := hide (HO.out.trans ho); replace HB := hide (HB.out.only ho (by simp)); (try clear k0 k1); have k0 := HB.out.cell 0; have k1 := HB.out.cell 1; simp at k0 k1; (try (replace HX := hide (HX.out.trans ho))); (try (replace HPV := hide (HPV.out.only ho (by simp)))); clear ho))
  go_ret
  exact ⟨rfl, HO.out⟩
set_option maxRecDepth 100000 in
set_option maxHeartbeats 12800000 in
theorem rp_mid (w : World) (mv rv : Value) (m : List (Int × Int)) (rs : List Rt) (U host sec : Int) (hm : RdS 2 ptc w [] mv m) (hmf : ∀ p ∈ m, Fit p) (hr : RdR w [] rv rs) (hf : ∀ r ∈ rs, FitR r) (hhv : heavyV m rs = false) (h1 : 60 < U) (h2 : U ≤ 1000) :
    Calls Try.prog 4 #[.agg #[mv, rv], .int .i64 U, .int .i64 host, .int .i64 sec] w fun e w' => e = .returned (.bool true) ∧ Only [] w w' := by
  have HAW := hide (fun W => awake22 W)
  have HHV := hide (fun W (h : Only [] w W) => heavy_any W mv rv m rs (hm.only h (by simp)) (hr.only h (by simp)))
  rw [hhv] at HHV
  obtain ⟨Am, cm, rfl, hcm0, hcm1⟩ := hm.form
  obtain ⟨A, cap, rfl, hcap, hmx⟩ := hr.1.form
  unfold maxLen at hmx hcm1
  generalize hnm : m.length = nm at *
  generalize hn : rs.length = n at *
  have HNM := hide hnm.symm
  have HN := hide hn.symm
  have HB := hide (Blk.new w 49 #[.slice Am nm cm, .slice A n cap])
  have HO := hide ((Only.refl [] w).alloc (.cells #[.slice Am nm cm, .slice A n cap] 49))
  clear hm hmf hr hf hhv hnm hn
  go_enter Try.func4, Try.ntmps4
  go_wp2_with (first
    | (go_at_call 18; refine (HAW.out _).mono ?_; rintro e w0 ⟨rfl, rfl⟩)
    | (go_at_call 19; refine (HHV.out _ HO.out).mono ?_; rintro e w1 ⟨rfl, ho⟩; replace HO := hide (HO.out.trans ho); replace HB := hide (HB.out.only ho (by simp)); (try clear k0 k1); have k0 := HB.out.cell 0; have k1 := HB.out.cell 1; simp at k0 k1; (try (replace HX := hide (HX.out.trans ho))); (try (replace HPV := hide (HPV.out.only ho (by simp)))); clear ho))
  go_ret
  exact ⟨rfl, HO.out⟩
set_option maxRecDepth 100000 in
set_option maxHeartbeats 12800000 in
theorem rp_bad (w : World) (mv rv : Value) (m : List (Int × Int)) (rs : List Rt) (U host sec : Int) (hm : RdS 2 ptc w [] mv m) (hmf : ∀ p ∈ m, Fit p) (hr : RdR w [] rv rs) (hf : ∀ r ∈ rs, FitR r) (hhv : heavyV m rs = false) (hU : U ≤ 60 ∨ 1000 < U) (hj : jrV m rs = false) :
    Calls Try.prog 4 #[.agg #[mv, rv], .int .i64 U, .int .i64 host, .int .i64 sec] w fun e w' => e = .returned (.bool true) ∧ Only [] w w' := by
  have HAW := hide (fun W => awake22 W)
  have HHV := hide (fun W (h : Only [] w W) => heavy_any W mv rv m rs (hm.only h (by simp)) (hr.only h (by simp)))
  rw [hhv] at HHV
  obtain ⟨hml, hrl, hll⟩ := heavy_no hhv
  have HAS := hide (fun W (h : Only [] w W) => as_any W [] [] mv rv m rs (hm.only h (by simp)) hml (hr.only h (by simp)) hrl hll)
  have HRF := hide (fun w5 v1 v2 rs' h1 h2 h3 => refs_of (w5 := w5) (v1 := v1) (v2 := v2) (m := m) (rs := rs) (rs' := rs') h1 h2 h3 hml hrl hll hf)
  have HJR := hide (fun W (h : Only [] w W) => journey_right W [] [] mv rv m rs (hm.only h (by simp)) hml hmf (hr.only h (by simp)) hrl hll hf)
  rw [hj] at HJR
  have HPL := hide (fun W (h : Only [] w W) => plan_bad W [] [] mv rv m rs U (hm.only h (by simp)) hml hmf (hr.only h (by simp)) hrl hll hf hj)
  have HAT := hide (fun W (h : Only [] w W) => jat_bad W [] [] mv rv m rs host sec (hm.only h (by simp)) hml hmf (hr.only h (by simp)) hrl hll hf hj)
  obtain ⟨Am0, cm0, hmv0, _, _⟩ := hm.form
  obtain ⟨A0, cap0, hrv0, _, _⟩ := hr.1.form
  have HMO := hide (fun W (h : Only [] w W) => moves_err W mv rv _ _ _ _ _ _ hmv0 hrv0 U 3 (fun W' h' => HPL.out W' (h.trans h')) (by decide))
  rw [hj] at HRF
  clear hj hll hmv0 hrv0
  obtain ⟨Am, cm, rfl, hcm0, hcm1⟩ := hm.form
  obtain ⟨A, cap, rfl, hcap, hmx⟩ := hr.1.form
  unfold maxLen at hmx hcm1
  generalize hnm : m.length = nm at *
  generalize hn : rs.length = n at *
  have HNM := hide hnm.symm
  have HN := hide hn.symm
  have HB := hide (Blk.new w 49 #[.slice Am nm cm, .slice A n cap])
  have HO := hide ((Only.refl [] w).alloc (.cells #[.slice Am nm cm, .slice A n cap] 49))
  clear hm hmf hr hf hhv hnm hn
  by_cases h1 : U ≤ 60
  · go_enter Try.func4, Try.ntmps4
    go_wp2_with (first
      | (go_at_call 18; refine (HAW.out _).mono ?_; rintro e w0 ⟨rfl, rfl⟩)
      | (go_at_call 19; refine (HHV.out _ HO.out).mono ?_; rintro e w1 ⟨rfl, ho⟩; replace HO := hide (HO.out.trans ho); replace HB := hide (HB.out.only ho (by simp)); (try clear k0 k1); have k0 := HB.out.cell 0; have k1 := HB.out.cell 1; simp at k0 k1; (try (replace HX := hide (HX.out.trans ho))); (try (replace HPV := hide (HPV.out.only ho (by simp)))); clear ho)
      | (go_at_call 20; refine (HAS.out _ HO.out).mono ?_; rintro e w2 ⟨v1, v2, rs2, rfl, hms, hrs, hk, ho⟩; have HREF := hide (HRF.out w2 v1 v2 rs2 hms hrs hk); obtain ⟨A1, c1, rfl⟩ := HREF.out.2.2.2.1; obtain ⟨A2, c2, rfl⟩ := HREF.out.2.2.2.2; replace HO := hide (HO.out.trans ho); replace HB := hide (HB.out.only ho (by simp)); (try clear k0 k1); have k0 := HB.out.cell 0; have k1 := HB.out.cell 1; simp at k0 k1; (try (replace HX := hide (HX.out.trans ho))); (try (replace HPV := hide (HPV.out.only ho (by simp)))); clear ho; have HX := hide (Only.refl [] w2); clear hms hrs hk)
      | (go_at_call 21; refine (HREF.out.1 _ HX.out).mono ?_; rintro e w3 ⟨rfl, ho⟩; replace HO := hide (HO.out.trans ho); replace HB := hide (HB.out.only ho (by simp)); (try clear k0 k1); have k0 := HB.out.cell 0; have k1 := HB.out.cell 1; simp at k0 k1; (try (replace HX := hide (HX.out.trans ho))); (try (replace HPV := hide (HPV.out.only ho (by simp)))); clear ho)
      | (go_at_call 22; refine (HPL.out _ HO.out).mono ?_; rintro e w4 ⟨rfl, ho⟩; replace HO := hide (HO.out.trans ho); replace HB := hide (HB.out.only ho (by simp)); (try clear k0 k1); have k0 := HB.out.cell 0; have k1 := HB.out.cell 1; simp at k0 k1; (try (replace HX := hide (HX.out.trans ho))); (try (replace HPV := hide (HPV.out.only ho (by simp)))); clear ho)
      | (go_at_call 23; refine (HMO.out _ HO.out).mono ?_; rintro e w5 ⟨rfl, ho⟩; replace HO := hide (HO.out.trans ho); replace HB := hide (HB.out.only ho (by simp)); (try clear k0 k1); have k0 := HB.out.cell 0; have k1 := HB.out.cell 1; simp at k0 k1; (try (replace HX := hide (HX.out.trans ho))); (try (replace HPV := hide (HPV.out.only ho (by simp)))); clear ho)
      | (go_at_call 24; refine (HAT.out _ HO.out).mono ?_; rintro e w6 ⟨rfl, ho⟩; replace HO := hide (HO.out.trans ho); replace HB := hide (HB.out.only ho (by simp)); (try clear k0 k1); have k0 := HB.out.cell 0; have k1 := HB.out.cell 1; simp at k0 k1; (try (replace HX := hide (HX.out.trans ho))); (try (replace HPV := hide (HPV.out.only ho (by simp)))); clear ho)
      | (go_at_call 25; refine (HJR.out _ HO.out).mono ?_; rintro e w7 ⟨rfl, ho⟩; replace HO := hide (HO.out.trans ho); replace HB := hide (HB.out.only ho (by simp)); (try clear k0 k1); have k0 := HB.out.cell 0; have k1 := HB.out.cell 1; simp at k0 k1; (try (replace HX := hide (HX.out.trans ho))); (try (replace HPV := hide (HPV.out.only ho (by simp)))); clear ho))
    go_ret
    exact ⟨rfl, HO.out⟩
  · have h2 : 1000 < U := by omega
    clear hU
    go_enter Try.func4, Try.ntmps4
    go_wp2_with (first
      | (go_at_call 18; refine (HAW.out _).mono ?_; rintro e w0 ⟨rfl, rfl⟩)
      | (go_at_call 19; refine (HHV.out _ HO.out).mono ?_; rintro e w1 ⟨rfl, ho⟩; replace HO := hide (HO.out.trans ho); replace HB := hide (HB.out.only ho (by simp)); (try clear k0 k1); have k0 := HB.out.cell 0; have k1 := HB.out.cell 1; simp at k0 k1; (try (replace HX := hide (HX.out.trans ho))); (try (replace HPV := hide (HPV.out.only ho (by simp)))); clear ho)
      | (go_at_call 20; refine (HAS.out _ HO.out).mono ?_; rintro e w2 ⟨v1, v2, rs2, rfl, hms, hrs, hk, ho⟩; have HREF := hide (HRF.out w2 v1 v2 rs2 hms hrs hk); obtain ⟨A1, c1, rfl⟩ := HREF.out.2.2.2.1; obtain ⟨A2, c2, rfl⟩ := HREF.out.2.2.2.2; replace HO := hide (HO.out.trans ho); replace HB := hide (HB.out.only ho (by simp)); (try clear k0 k1); have k0 := HB.out.cell 0; have k1 := HB.out.cell 1; simp at k0 k1; (try (replace HX := hide (HX.out.trans ho))); (try (replace HPV := hide (HPV.out.only ho (by simp)))); clear ho; have HX := hide (Only.refl [] w2); clear hms hrs hk)
      | (go_at_call 21; refine (HREF.out.1 _ HX.out).mono ?_; rintro e w3 ⟨rfl, ho⟩; replace HO := hide (HO.out.trans ho); replace HB := hide (HB.out.only ho (by simp)); (try clear k0 k1); have k0 := HB.out.cell 0; have k1 := HB.out.cell 1; simp at k0 k1; (try (replace HX := hide (HX.out.trans ho))); (try (replace HPV := hide (HPV.out.only ho (by simp)))); clear ho)
      | (go_at_call 22; refine (HPL.out _ HO.out).mono ?_; rintro e w4 ⟨rfl, ho⟩; replace HO := hide (HO.out.trans ho); replace HB := hide (HB.out.only ho (by simp)); (try clear k0 k1); have k0 := HB.out.cell 0; have k1 := HB.out.cell 1; simp at k0 k1; (try (replace HX := hide (HX.out.trans ho))); (try (replace HPV := hide (HPV.out.only ho (by simp)))); clear ho)
      | (go_at_call 23; refine (HMO.out _ HO.out).mono ?_; rintro e w5 ⟨rfl, ho⟩; replace HO := hide (HO.out.trans ho); replace HB := hide (HB.out.only ho (by simp)); (try clear k0 k1); have k0 := HB.out.cell 0; have k1 := HB.out.cell 1; simp at k0 k1; (try (replace HX := hide (HX.out.trans ho))); (try (replace HPV := hide (HPV.out.only ho (by simp)))); clear ho)
      | (go_at_call 24; refine (HAT.out _ HO.out).mono ?_; rintro e w6 ⟨rfl, ho⟩; replace HO := hide (HO.out.trans ho); replace HB := hide (HB.out.only ho (by simp)); (try clear k0 k1); have k0 := HB.out.cell 0; have k1 := HB.out.cell 1; simp at k0 k1; (try (replace HX := hide (HX.out.trans ho))); (try (replace HPV := hide (HPV.out.only ho (by simp)))); clear ho)
      | (go_at_call 25; refine (HJR.out _ HO.out).mono ?_; rintro e w7 ⟨rfl, ho⟩; replace HO := hide (HO.out.trans ho); replace HB := hide (HB.out.only ho (by simp)); (try clear k0 k1); have k0 := HB.out.cell 0; have k1 := HB.out.cell 1; simp at k0 k1; (try (replace HX := hide (HX.out.trans ho))); (try (replace HPV := hide (HPV.out.only ho (by simp)))); clear ho))
    go_ret
    exact ⟨rfl, HO.out⟩
end
end Go.Proofs.Yteoifokmbkpbnaa

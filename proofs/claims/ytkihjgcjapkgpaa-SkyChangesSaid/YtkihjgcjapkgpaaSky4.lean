/-
  Contracts of sky's nearest, Nearest, Far and of the law's points, by walking.
-/
import Derived.Test.YtkihjgcjapkgpaaSky3
namespace Go.Proofs.Ytkihjgcjapkgpaa
open Go.RowKit Go.Deep

theorem nb_hit {l : List (Int × Int)} {p : Int × Int} {k : Nat} (h : farV (l.getD k (0, 0)) p < farV (l.getD (nb l p k) (0, 0)) p) : nb l p (k + 1) = k := if_pos h
theorem nb_miss {l : List (Int × Int)} {p : Int × Int} {k : Nat} (h : ¬ farV (l.getD k (0, 0)) p < farV (l.getD (nb l p k) (0, 0)) p) : nb l p (k + 1) = nb l p k := if_neg h
theorem flt_lt {a b : Nat} {x y : Int} (h1 : FI a x) (h2 : FI b y) : (FloatKind.f64.format.order a b == some .lt) = decide (x < y) := by
  rw [show FloatKind.f64.format.order a b = some (compare x y) from fi_order h1 h2]
  by_cases h : x < y
  · rw [decide_eq_true h, show compare x y = .lt from by
      show compareOfLessAndEq x y = _
      unfold compareOfLessAndEq
      rw [if_pos h]]
    rfl
  · rw [decide_eq_false h]
    have : compare x y ≠ .lt := by
      show compareOfLessAndEq x y ≠ _
      unfold compareOfLessAndEq
      rw [if_neg h]
      split <;> simp
    cases hc : compare x y with
    | lt => exact absurd hc this
    | eq => rfl
    | gt => rfl

set_option maxRecDepth 100000 in
set_option maxHeartbeats 3200000 in
theorem nearest_any (w : World) (N : List Nat) (v c : Value) (l : List (Int × Int)) (p : Int × Int) (hv : RdS 2 ptc w N v l) (hl : l.length ≤ 1000) (hok : ∀ q ∈ l, okP q = true) (hp : okP p = true) (hc : Cx c p.1 p.2) :
    Calls Try.prog 39 #[v, c] w (NumPost (nearV l p) w) := by
  obtain ⟨A, cap, rfl, hcap, hm⟩ := hv.form
  unfold maxLen at hm
  have HV := hide hv
  obtain ⟨n, hn⟩ : ∃ n, n = l.length := ⟨_, rfl⟩
  have HN := hide hn
  rw [← hn] at hl hcap HV ⊢
  have HOK := hide (show ∀ i, i < n → okP (l.getD i (0, 0)) = true from fun i hi => hok _ (by
    rw [List.getD_eq_getElem?_getD, List.getElem?_eq_getElem (by rw [← HN.out]; exact hi)]; exact List.getElem_mem _))
  have HPB := hide (okP_bd hp)
  have HC := hide hc
  clear hv hn hok hp hc
  go_enter Try.func39, Try.ntmps39
  go_wp2_with fail
  go_loopw [12, 5, 6] (fun i b f wr => ∃ (k : Nat) (r : Nat), k ≤ n ∧ i = .int .i64 k ∧ b = .int .i64 (nb l p k : Nat) ∧ f = .float .f64 r ∧ Hid (0 < k → FI r (farV (l.getD (nb l p k) (0, 0)) p)) ∧ Hid (Only [] w wr)) (fun i _ _ _ => n - (intOf i).toNat)
  case atStart => exact ⟨0, 0, Nat.zero_le _, rfl, rfl, rfl, hide (fun h => by omega), hide (Only.refl _ _)⟩
  case round =>
    obtain ⟨k, r, hk, rfl, rfl, rfl, hfi, ho⟩ := hrel
    by_cases hlt : k < n
    · have hlt' : (k : Int) < n := by omega
      obtain ⟨g, o, rfl, _, hg⟩ := HV.out.addr (by rw [← HN.out]; omega)
      obtain ⟨c1, c2⟩ := pts_cell (HV.out.only ho.out (by simp)) (show k < l.length by rw [← HN.out]; exact hlt)
      have hb1 := okP_bd (HOK.out k hlt)
      have HHIT := hide (@nb_hit l p k)
      have HMISS := hide (@nb_miss l p k)
      have hbk : 0 < k → nb l p k < k := nb_lt l p k
      generalize nb l p k = b at *
      generalize hx : l.getD k (0, 0) = x at *
      have HX := hide hx
      have HCX := hide hb1
      have HNUM := hide (show ∀ W, _ from fun W => number_any W x.1 x.2 (by omega) (by omega))
      have hOA := hide (ho.out.alloc (.cells #[.int .i64 x.1, .int .i64 x.2] 24))
      clear hx hb1
      by_cases hk0 : k = 0
      · have hkB : ((k : Int) == 0) = true := by rw [beq_iff_eq]; omega
        have HK0 := hide hk0
        clear hbk hk0
        go_wp2_with (first
          | (go_at_call 40; refine (HNUM.out _).mono ?_; rintro e wA ⟨cA, rfl, hcA, hoA⟩; have HOA := hide (hOA.out.trans hoA); obtain ⟨cS, hS, hcS⟩ := cx_sub HC.out hcA (by have := HPB.out; have := HCX.out; omega) (by have := HPB.out; have := HCX.out; omega); have HCS := hide hcS; clear hoA hcA hcS)
          | (go_at_call 41; refine (square_any _ cS _ _ HCS.out (by have := HPB.out; have := HCX.out; omega) (by have := HPB.out; have := HCX.out; omega)).mono ?_; rintro e wB ⟨rB, rfl, hrB, rfl⟩; have HRB := hide hrB; clear hrB))
        go_roundw
        case rel => exact ⟨k + 1, rB, by omega, by go_num, by
          have hk0 := HK0.out
          have : nb l p (k + 1) = k := by subst hk0; unfold nb; split <;> rfl
          rw [this], rfl, hide (fun _ => by
            have hk0 := HK0.out
            have : nb l p (k + 1) = k := by subst hk0; unfold nb; split <;> rfl
            rw [this, HX.out, farV_comm]; exact HRB.out), HOA⟩
        case measure => simp [intOf]; omega
      · have hkB : ((k : Int) == 0) = false := by rw [beq_eq_false_iff_ne]; omega
        have hr := hfi.out (by omega)
        have HR := hide hr
        have hbn := hbk (by omega)
        clear hr hbk
        go_upto_region 6 with (first
          | (go_at_call 40; refine (HNUM.out _).mono ?_; rintro e wA ⟨cA, rfl, hcA, hoA⟩; have HOA := hide (hOA.out.trans hoA); obtain ⟨cS, hS, hcS⟩ := cx_sub HC.out hcA (by have := HPB.out; have := HCX.out; omega) (by have := HPB.out; have := HCX.out; omega); have HCS := hide hcS; clear hoA hcA hcS)
          | (go_at_call 41; refine (square_any _ cS _ _ HCS.out (by have := HPB.out; have := HCX.out; omega) (by have := HPB.out; have := HCX.out; omega)).mono ?_; rintro e wB ⟨rB, rfl, hrB, rfl⟩; have HRB := hide (show FI rB (farV x p) by rw [farV_comm]; exact hrB); clear hrB))
        have hcmp := flt_lt HRB.out HR.out
        by_cases hc : farV x p < farV (l.getD b (0, 0)) p
        · rw [decide_eq_true hc] at hcmp
          have HSS := hide (HHIT.out hc)
          clear hc
          go_wp2_with fail
          go_roundw
          case rel => exact ⟨k + 1, rB, by omega, by go_num, by rw [HSS.out], rfl, hide (fun _ => by rw [HSS.out, HX.out]; exact HRB.out), HOA⟩
          case measure => simp [intOf]; omega
        · rw [decide_eq_false hc] at hcmp
          have HSS := hide (HMISS.out (by omega))
          clear hc
          go_wp2_with fail
          go_roundw
          case rel => exact ⟨k + 1, r, by omega, by go_num, by rw [HSS.out], rfl, hide (fun _ => by rw [HSS.out]; exact HR.out), HOA⟩
          case measure => simp [intOf]; omega
    · have hlt' : ¬ (k : Int) < n := by omega
      obtain rfl : k = n := by omega
      have HEQ := hide (show ((nearV l p : Nat) : Int) = (nb l p k : Nat) by unfold nearV; rw [← HN.out])
      go_wp2_with fail
      go_ret
      exact numpost HEQ.out ho.out

def TwoPost (n c : Int) (w : World) (e : Ending) (w' : World) : Prop := e = .returned (.tuple #[.int .i64 n, .int .i64 c]) ∧ Only [] w w'
theorem twopost {n n' c c' : Int} {w w' : World} (h : n = n') (hc : c = c') (ho : Only [] w w') : TwoPost n c w (.returned (.tuple #[.int .i64 n', .int .i64 c'])) w' := ⟨by rw [h, hc], ho⟩

set_option maxRecDepth 100000 in
set_option maxHeartbeats 1600000 in
theorem Nearest_any (w : World) (N : List Nat) (v : Value) (l : List (Int × Int)) (p : Int × Int) (hv : RdS 2 ptc w N v l) (hl : l.length ≤ 1000) (hfit : ∀ q ∈ l, Fit q) (hp : Fit p) :
    Calls Try.prog 8 #[v, pt p] w (TwoPost (if mastsV l && okP p then (nearV l p : Nat) else 0) (if mastsV l && okP p then 0 else 3) w) := by
  have HO := hide ((Only.refl [] w).alloc (.cells #[.int .i64 p.1, .int .i64 p.2] 24))
  have HB := hide (Blk.new w 24 #[.int .i64 p.1, .int .i64 p.2])
  have HM := hide (masts_any _ N v l (hv.only HO.out (by simp)) hl hfit)
  have HR := hide (show ∀ W, _ from fun W => right_any W p hp)
  have HNV := hide (show ∀ W c, Only [] w W → Cx c p.1 p.2 → mastsV l = true → okP p = true → _ from fun W c ho hc hm hk => nearest_any W N v c l p (hv.only ho (by simp)) hl (masts_mem hm).1 hk hc)
  have HPB := hide (fun h : okP p = true => okP_bd h)
  obtain ⟨A, cap, rfl, hc, hm⟩ := hv.form
  clear hv
  unfold pt at *
  cases hmv : mastsV l with
  | false =>
    have HMV := hide hmv
    clear hmv
    go_enter Try.func8, Try.ntmps8
    go_wp2_with (go_at_call 38; refine HM.out.mono ?_; rintro e w1 ⟨rfl, ho⟩; have HO1 := hide (HO.out.trans ho); rw [HMV.out]; clear ho)
    go_ret2
    exact twopost rfl rfl HO1.out
  | true =>
    have HMV := hide hmv
    clear hmv
    cases hpv : okP p with
    | false =>
      have HPV := hide hpv
      clear hpv
      go_enter Try.func8, Try.ntmps8
      go_wp2_with (first
        | (go_at_call 38; refine HM.out.mono ?_; rintro e w1 ⟨rfl, ho⟩; have HO1 := hide (HO.out.trans ho); have hB1 := HB.out.only ho (by simp); have k0 := hB1.cell 0; have k1 := hB1.cell 1; simp at k0 k1; rw [HMV.out]; clear ho hB1)
        | (go_at_call 24; refine (HR.out _).mono ?_; rintro e w2 ⟨rfl, ho⟩; have HO2 := hide (HO1.out.trans ho); rw [HPV.out]; clear ho))
      go_ret2
      exact twopost rfl rfl HO2.out
    | true =>
      have HPV := hide hpv
      have hpb := HPB.out hpv
      have HNUM := hide (show ∀ W, _ from fun W => number_any W p.1 p.2 (by omega) (by omega))
      clear hpv hpb
      go_enter Try.func8, Try.ntmps8
      go_wp2_with (first
        | (go_at_call 38; refine HM.out.mono ?_; rintro e w1 ⟨rfl, ho⟩; have HO1 := hide (HO.out.trans ho); have HB1 := hide (HB.out.only ho (by simp)); have k0 := HB1.out.cell 0; have k1 := HB1.out.cell 1; simp at k0 k1; rw [HMV.out]; clear ho)
        | (go_at_call 24; refine (HR.out _).mono ?_; rintro e w2 ⟨rfl, ho⟩; have HO2 := hide (HO1.out.trans ho); have hB2 := HB1.out.only ho (by simp); have j0 := hB2.cell 0; have j1 := hB2.cell 1; simp at j0 j1; rw [HPV.out]; clear ho hB2)
        | (go_at_call 40; refine (HNUM.out _).mono ?_; rintro e w3 ⟨c3, rfl, hc3, ho⟩; have HO3 := hide (HO2.out.trans ho); have HC3 := hide hc3; clear ho hc3)
        | (go_at_call 39; refine (HNV.out _ c3 HO3.out HC3.out HMV.out HPV.out).mono ?_; rintro e w4 ⟨rfl, ho⟩; have HO4 := hide (HO3.out.trans ho); clear ho))
      go_ret2
      exact twopost rfl rfl HO4.out
end Go.Proofs.Ytkihjgcjapkgpaa

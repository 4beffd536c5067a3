/-
  Walks and plain words (texts RoamA, Ro6, Hs). No condition beyond those that each theorem states.
-/
import Derived.Test.YteoifokmbkpbnaaChecked
import Derived.WalkKit
import Derived.WalkSpells
import Derived.ProofKit
import Derived.Deep.MidRow
import Derived.Test.YteoifokmbkpbnaaQ06
namespace Go.Proofs.Yteoifokmbkpbnaa
section
open Go.RowKit

theorem address_in (h m : Int) (w : World) (h0 : 0 ≤ h) (h1 : h ≤ 7) (m0 : 0 ≤ m) (m1 : m ≤ 63) :
    Calls Try.prog 41 #[.int .i64 h, .int .i64 m] w fun e w' => e = .returned (.tuple #[.int .i64 (8 * m + h + 1), .int .i64 0]) ∧ w = w' := by
  go_enter Try.func41, Try.ntmps41
  go_wp2
  go_ret2
  exact ⟨rfl, rfl⟩

theorem awake22 (w : World) :
    Calls Try.prog 18 #[] w fun e w' => e = .returned (.bool true) ∧ w = w' := by
  go_enter Try.func18, Try.ntmps18
  go_wp2_with (go_at_call 41; refine (address_in _ _ _ (by omega) (by omega) (by omega) (by omega)).mono ?_; rintro e w' ⟨rfl, rfl⟩)
  go_ret
  exact ⟨rfl, rfl⟩
end
section
open Go.RowKit Go.Deep

theorem address_any (w : World) (h m : Nat) (h1 : h ≤ 7) (m1 : m ≤ 63) : Calls Try.prog 45 #[.int .i64 h, .int .i64 m] w (NumPost (8 * (m : Int) + h + 1) w) := by
  go_enter Try.func45, Try.ntmps45
  go_wp2
  go_ret
  exact numpost rfl (Only.refl _ _)
set_option maxRecDepth 100000 in
set_option maxHeartbeats 3200000 in
theorem jat_bad (w : World) (N M : List Nat) (mv rv : Value) (m : List (Int × Int)) (rs : List Rt) (host T : Int) (hm : RdS 2 ptc w N mv m) (hml : m.length ≤ 1000) (hmf : ∀ p ∈ m, Fit p) (hr : RdR w M rv rs) (hrl : rs.length ≤ 1000) (hll : ∀ r ∈ rs, r.2.2.length ≤ 1000) (hf : ∀ r ∈ rs, FitR r) (hj : jrV m rs = false) :
    Calls Try.prog 24 #[.agg #[mv, rv], .int .i64 host, .int .i64 T] w (TwoPost 0 3 w) := by
  have HJR := hide (show ∀ W, Only [] w W → _ from fun W ho => journey_right W N M mv rv m rs (hm.only ho (by simp)) hml hmf (hr.only ho (by simp)) hrl hll hf)
  rw [hj] at HJR
  obtain ⟨Am, cm, rfl, _, _⟩ := hm.form
  obtain ⟨A, cap, rfl, hcap, hmx⟩ := hr.1.form
  unfold maxLen at hmx
  clear hm hmf hr hll hf hj
  generalize m.length = nm at *
  obtain ⟨n, hn⟩ : ∃ n, n = rs.length := ⟨_, rfl⟩
  have HN := hide hn
  rw [← hn] at HJR hcap hrl ⊢
  have HB := hide (Blk.new w 49 #[.slice Am nm cm, .slice A n cap])
  have HO := hide ((Only.refl [] w).alloc (.cells #[.slice Am nm cm, .slice A n cap] 49))
  have k0 := HB.out.cell 0
  have k1 := HB.out.cell 1
  simp at k0 k1
  clear hn
  go_enter Try.func24, Try.ntmps24
  go_wp2_with (go_at_call 25; refine (HJR.out _ HO.out).mono ?_; rintro e w1 ⟨rfl, ho⟩; replace HO := hide (HO.out.trans ho); replace HB := hide (HB.out.only ho (by simp)); clear k0 k1; have k0 := HB.out.cell 0; have k1 := HB.out.cell 1; simp at k0 k1; clear ho)
  go_ret2
  exact twopost rfl rfl HO.out
set_option maxRecDepth 100000 in
set_option maxHeartbeats 3200000 in
theorem jat_none (w : World) (N M : List Nat) (mv rv : Value) (m : List (Int × Int)) (rs : List Rt) (host T : Int) (hm : RdS 2 ptc w N mv m) (hml : m.length ≤ 1000) (hmf : ∀ p ∈ m, Fit p) (hr : RdR w M rv rs) (hrl : rs.length ≤ 1000) (hll : ∀ r ∈ rs, r.2.2.length ≤ 1000) (hf : ∀ r ∈ rs, FitR r) (hj : jrV m rs = true) (hh : host < 0 ∨ (rs.length : Int) ≤ host) :
    Calls Try.prog 24 #[.agg #[mv, rv], .int .i64 host, .int .i64 T] w (TwoPost 0 6 w) := by
  have HJR := hide (show ∀ W, Only [] w W → _ from fun W ho => journey_right W N M mv rv m rs (hm.only ho (by simp)) hml hmf (hr.only ho (by simp)) hrl hll hf)
  rw [hj] at HJR
  obtain ⟨Am, cm, rfl, _, _⟩ := hm.form
  obtain ⟨A, cap, rfl, hcap, hmx⟩ := hr.1.form
  unfold maxLen at hmx
  clear hm hmf hr hll hf hj
  generalize m.length = nm at *
  obtain ⟨n, hn⟩ : ∃ n, n = rs.length := ⟨_, rfl⟩
  have HN := hide hn
  rw [← hn] at HJR hcap hrl hh ⊢
  have HB := hide (Blk.new w 49 #[.slice Am nm cm, .slice A n cap])
  have HO := hide ((Only.refl [] w).alloc (.cells #[.slice Am nm cm, .slice A n cap] 49))
  have k0 := HB.out.cell 0
  have k1 := HB.out.cell 1
  simp at k0 k1
  clear hn
  by_cases h0 : host < 0
  · go_enter Try.func24, Try.ntmps24
    go_wp2_with (go_at_call 25; refine (HJR.out _ HO.out).mono ?_; rintro e w1 ⟨rfl, ho⟩; replace HO := hide (HO.out.trans ho); replace HB := hide (HB.out.only ho (by simp)); clear k0 k1; have k0 := HB.out.cell 0; have k1 := HB.out.cell 1; simp at k0 k1; clear ho)
    go_ret2
    exact twopost rfl rfl HO.out
  · have h1 : (n : Int) ≤ host := by omega
    clear hh
    go_enter Try.func24, Try.ntmps24
    go_wp2_with (go_at_call 25; refine (HJR.out _ HO.out).mono ?_; rintro e w1 ⟨rfl, ho⟩; replace HO := hide (HO.out.trans ho); replace HB := hide (HB.out.only ho (by simp)); clear k0 k1; have k0 := HB.out.cell 0; have k1 := HB.out.cell 1; simp at k0 k1; clear ho)
    go_ret2
    exact twopost rfl rfl HO.out
set_option maxRecDepth 100000 in
set_option maxHeartbeats 3200000 in
theorem jat_arg (w : World) (N M : List Nat) (mv rv : Value) (m : List (Int × Int)) (rs : List Rt) (host : Nat) (T : Int) (hm : RdS 2 ptc w N mv m) (hml : m.length ≤ 1000) (hmf : ∀ p ∈ m, Fit p) (hr : RdR w M rv rs) (hrl : rs.length ≤ 1000) (hll : ∀ r ∈ rs, r.2.2.length ≤ 1000) (hf : ∀ r ∈ rs, FitR r) (hj : jrV m rs = true) (hh : host < rs.length) (hT : T < 0) :
    Calls Try.prog 24 #[.agg #[mv, rv], .int .i64 host, .int .i64 T] w (TwoPost 0 2 w) := by
  have HJR := hide (show ∀ W, Only [] w W → _ from fun W ho => journey_right W N M mv rv m rs (hm.only ho (by simp)) hml hmf (hr.only ho (by simp)) hrl hll hf)
  rw [hj] at HJR
  have hjj := hj
  unfold jrV at hjj
  rw [Bool.and_eq_true, Bool.and_eq_true, List.all_eq_true] at hjj
  obtain ⟨hmv, hd, hrs⟩ := hjj
  have hmem := getD_mem rs zr hh
  have HAT := hide (show ∀ W, Only [] w W → _ from fun W ho => at_bad W M _ (rs.getD host zr).1 (rs.getD host zr).2.2 T ((hr.2 _ hmem).only ho (by simp)) (hll _ hmem) (hf _ hmem).1 (hf _ hmem).2 (.inr hT))
  rw [hrs _ hmem] at HAT
  simp only [if_true] at HAT
  obtain ⟨Al, cl, hlv, _, _⟩ := (hr.2 _ hmem).form
  obtain ⟨Am, cm, rfl, _, _⟩ := hm.form
  obtain ⟨A, cap, rfl, hcap, hmx⟩ := hr.1.form
  unfold maxLen at hmx
  generalize m.length = nm at *
  obtain ⟨n, hn⟩ : ∃ n, n = rs.length := ⟨_, rfl⟩
  have HN := hide hn
  rw [← hn] at HJR hcap hrl hh ⊢
  have HB := hide (Blk.new w 49 #[.slice Am nm cm, .slice A n cap])
  have HO := hide ((Only.refl [] w).alloc (.cells #[.slice Am nm cm, .slice A n cap] 49))
  have k0 := HB.out.cell 0
  have k1 := HB.out.cell 1
  simp at k0 k1
  have hh' : (host : Int) < n := by omega
  have hh0 : ¬ (host : Int) < 0 := by omega
  have hmem := getD_mem rs zr (show host < rs.length by omega)
  obtain ⟨g, o, rfl, _, _⟩ := hr.1.addr (by omega)
  have HCE := hide (show ∀ W, Only [] w W → _ from fun W h => rts_cell (hr.1.only (w' := W) (S := []) h (by simp)) (show host < rs.length by omega))
  clear hm hmf hr hll hf hj hmv hd hrs hmem hn hh
  rw [hlv] at HAT HCE
  clear hlv
  generalize (rs.getD host zr).2.2 = l at *
  generalize (rs.getD host zr).1 = s at *
  obtain ⟨s1, s2⟩ := s
  unfold PtcPost pt at HAT
  simp only at HAT HCE
  go_enter Try.func24, Try.ntmps24
  go_upto_region 5 with (go_at_call 25; refine (HJR.out _ HO.out).mono ?_; rintro e w1 ⟨rfl, ho⟩; replace HO := hide (HO.out.trans ho); replace HB := hide (HB.out.only ho (by simp)); clear k0 k1; have k0 := HB.out.cell 0; have k1 := HB.out.cell 1; simp at k0 k1; clear ho)
  obtain ⟨c1, c2, c3⟩ := HCE.out _ HO.out
  go_wp2_with (go_at_call 46; refine (HAT.out _ HO.out).mono ?_; rintro e w2 ⟨rfl, ho⟩; replace HO := hide ((HO.out.trans ho).alloc (.cells #[.int .i64 0, .int .i64 0] 95)); clear ho)
  go_ret2
  exact twopost rfl rfl HO.out
set_option maxRecDepth 100000 in
set_option maxHeartbeats 3200000 in
theorem jat_ok (w : World) (N M : List Nat) (mv rv : Value) (m : List (Int × Int)) (rs : List Rt) (host T : Nat) (hm : RdS 2 ptc w N mv m) (hml : m.length ≤ 1000) (hmf : ∀ p ∈ m, Fit p) (hr : RdR w M rv rs) (hrl : rs.length ≤ 1000) (hll : ∀ r ∈ rs, r.2.2.length ≤ 1000) (hf : ∀ r ∈ rs, FitR r) (hj : jrV m rs = true) (hh : host < rs.length) (hT : T ≤ 9223372036854775807) :
    Calls Try.prog 24 #[.agg #[mv, rv], .int .i64 host, .int .i64 T] w (TwoPost (8 * (nearV m (atV (rs.getD host zr).1 (rs.getD host zr).2.2 T) : Nat) + host + 1) 0 w) := by
  have HJR := hide (show ∀ W, Only [] w W → _ from fun W ho => journey_right W N M mv rv m rs (hm.only ho (by simp)) hml hmf (hr.only ho (by simp)) hrl hll hf)
  rw [hj] at HJR
  have hjj := hj
  unfold jrV at hjj
  rw [Bool.and_eq_true, Bool.and_eq_true, List.all_eq_true] at hjj
  obtain ⟨hmv, hd, hrs⟩ := hjj
  have hd := of_decide_eq_true hd
  have hmem := getD_mem rs zr hh
  have hrv := hrs _ hmem
  have HAT := hide (show ∀ W, Only [] w W → _ from fun W ho => route_at W M _ (rs.getD host zr).1 (rs.getD host zr).2.2 T ((hr.2 _ hmem).only ho (by simp)) (hll _ hmem) (hf _ hmem).1 (hf _ hmem).2 hrv hT)
  have hok := routes_at hrv T
  have hfp : Fit (atV (rs.getD host zr).1 (rs.getD host zr).2.2 T) := by have := okP_bd hok; unfold Fit; omega
  have HNE := hide (show ∀ W, Only [] w W → Calls Try.prog 47 #[mv, pt (atV (rs.getD host zr).1 (rs.getD host zr).2.2 T)] W (TwoPost (nearV m (atV (rs.getD host zr).1 (rs.getD host zr).2.2 T) : Nat) 0 W) from fun W ho => by
    have h := Nearest_any W N mv m _ (hm.only ho (by simp)) hml hmf hfp
    rwa [hmv, hok, Bool.and_true, if_pos rfl, if_pos rfl] at h)
  have hmm := masts_mem hmv
  have hnl : nearV m (atV (rs.getD host zr).1 (rs.getD host zr).2.2 T) < m.length := nb_lt _ _ _ hmm.2.1
  have hm64 := hmm.2.2
  obtain ⟨Al, cl, hlv, _, _⟩ := (hr.2 _ hmem).form
  obtain ⟨Am, cm, rfl, _, _⟩ := hm.form
  obtain ⟨A, cap, rfl, hcap, hmx⟩ := hr.1.form
  unfold maxLen at hmx
  generalize m.length = nm at *
  obtain ⟨n, hn⟩ : ∃ n, n = rs.length := ⟨_, rfl⟩
  have HN := hide hn
  rw [← hn] at HJR hcap hrl hh ⊢
  have HB := hide (Blk.new w 49 #[.slice Am nm cm, .slice A n cap])
  have HO := hide ((Only.refl [] w).alloc (.cells #[.slice Am nm cm, .slice A n cap] 49))
  have k0 := HB.out.cell 0
  have k1 := HB.out.cell 1
  simp at k0 k1
  have hh' : (host : Int) < n := by omega
  have hh0 : ¬ (host : Int) < 0 := by omega
  have hmem := getD_mem rs zr (show host < rs.length by omega)
  obtain ⟨g, o, rfl, _, _⟩ := hr.1.addr (by omega)
  have HCE := hide (show ∀ W, Only [] w W → _ from fun W h => rts_cell (hr.1.only (w' := W) (S := []) h (by simp)) (show host < rs.length by omega))
  have hh7 : host ≤ 7 := by have := hd.2; omega
  clear hm hmf hr hll hf hj hmv hd hrs hmem hn hh hrv hok hfp hmm
  rw [hlv] at HAT HCE
  clear hlv
  generalize hX : atV (rs.getD host zr).1 (rs.getD host zr).2.2 T = X at *
  clear hX
  generalize (rs.getD host zr).2.2 = l at *
  generalize (rs.getD host zr).1 = s at *
  obtain ⟨s1, s2⟩ := s
  obtain ⟨X1, X2⟩ := X
  generalize nearV m (X1, X2) = y at *
  have HAD := hide (fun W => address_any W host y hh7 (by omega))
  unfold PtcPost pt at HAT
  unfold TwoPost pt at HNE
  unfold NumPost at HAD
  simp only at HAT HCE HNE
  clear hh7 hnl hm64
  go_enter Try.func24, Try.ntmps24
  go_upto_region 5 with (go_at_call 25; refine (HJR.out _ HO.out).mono ?_; rintro e w1 ⟨rfl, ho⟩; replace HO := hide (HO.out.trans ho); replace HB := hide (HB.out.only ho (by simp)); clear k0 k1; have k0 := HB.out.cell 0; have k1 := HB.out.cell 1; simp at k0 k1; clear ho)
  obtain ⟨c1, c2, c3⟩ := HCE.out _ HO.out
  go_wp2_with (first
    | (go_at_call 46; refine (HAT.out _ HO.out).mono ?_; rintro e w2 ⟨rfl, ho⟩; replace HO := hide ((HO.out.trans ho).alloc (.cells #[.int .i64 X1, .int .i64 X2] 95)); replace HB := hide ((HB.out.only ho (by simp)).alloc (.cells #[.int .i64 X1, .int .i64 X2] 95)); clear k0 k1; have k0 := HB.out.cell 0; have k1 := HB.out.cell 1; simp at k0 k1; clear ho)
    | (go_at_call 47; refine (HNE.out _ HO.out).mono ?_; rintro e w3 ⟨rfl, ho⟩; replace HO := hide (HO.out.trans ho); clear ho)
    | (go_at_call 45; refine (HAD.out _).mono ?_; rintro e w4 ⟨rfl, ho⟩; replace HO := hide (HO.out.trans ho); clear ho))
  go_ret2
  exact twopost rfl rfl HO.out
end
section
open Go.RowKit Go.Deep

theorem blk_there {w : World} {g : Nat} {t : TypeId} {cs : Array Value} (h : Blk w g t cs) (n : Nat) (hn : n = cs.size) : w.there g 0 n := by
  subst hn
  intro j hj
  rw [Nat.zero_add, h.cell]
  exact ⟨by simp [hj], h.frozen j⟩
theorem blk_stored {w : World} {g : Nat} {t : TypeId} {cs : Array Value} (h : Blk w g t cs) (l : List Value) (hl : l.length = cs.size) : Blk (w.setCells g 0 l) g t l.toArray := h.setCells_whole hl
end
end Go.Proofs.Yteoifokmbkpbnaa

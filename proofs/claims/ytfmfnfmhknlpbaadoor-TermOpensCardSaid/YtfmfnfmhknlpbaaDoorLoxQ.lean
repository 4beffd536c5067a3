/-
  The law TermOpens, no Mac; by walking. Condition: the library's table of powers of ten reads as it was laid.
-/
import Derived.Test.YtfmfnfmhknlpbaaDoorLo0Q
namespace Go.Proofs.YtfmfnfmhknlpbaaDoor
open Go.RowKit Go.Deep

set_option maxRecDepth 100000 in
set_option maxHeartbeats 12800000 in
theorem opens_x (t key u v : ByteArray) (n m : Nat) (hn : n < 18446744073709551616) (ht : t.size ≤ 1000) (hkey : key.size ≤ 1000) (hu : u.size ≤ 1000) (hv : v.size ≤ 1000) (K : Int) (h9 : (K == 9) = false) (N : Nat) (B : List UInt8) (L : List ByteArray) (hw : whatV t = (K, N, B, L)) (w : World) (htab : Tab w) :
    Calls Tryd.prog 5 #[.string t, .string key, .string u, .string v, .int .u64 n, .int .u64 m] w fun e w' => e = .returned (.bool true) ∧ Only [] w w' := by
  have h1 : ¬ (1000 : Int) < t.size := by omega
  have h2 : ¬ (1000 : Int) < key.size := by omega
  have h3 : ¬ (1000 : Int) < u.size := by omega
  have h4 : ¬ (1000 : Int) < v.size := by omega
  have hts : t.size ≤ maxLen := by unfold maxLen; omega
  have hks : key.size ≤ maxLen := by unfold maxLen; omega
  have hus : u.size ≤ maxLen := by unfold maxLen; omega
  have hvs : v.size ≤ maxLen := by unfold maxLen; omega
  have HOP := hide (fun W => Open_any W t key v n hts)
  have HOR := hide (fun W => OpenR_any W t key v n (by omega))
  have HRD := hide (fun W => readR_what W t hts)
  have HSG := hide (fun W => Signed_any W t key u hts)
  have HAG := hide (fun W ht => Agree_any W t key hts hks ht)
  have HAR := hide (fun W => AgreeR_any W t key hts hks)
  have HSL := hide (fun W => SealR_any W n hn key u v hks hus hvs)
  unfold OpenPost at HOP HOR
  unfold RetB at HSG
  unfold MakePost at HAG HAR HSL
  have hsg : signT t key u = false := by
    unfold signT
    unfold whatV at hw
    cases h : parseV t with
    | none => rfl
    | some nd =>
      rw [h, Option.getD_some] at hw
      rw [hw]
      simp only
      rw [decide_eq_false (by simpa using h9)]
      rfl
  rw [hsg] at HSG
  rw [hw] at HRD
  simp only at HRD
  obtain ⟨⟨ra, rc⟩, hr⟩ : ∃ r, openT t key n v = r := ⟨_, rfl⟩
  rw [hr] at HOP HOR
  simp only at HOP HOR
  obtain ⟨ga, hga⟩ : ∃ g, agreeT t key = g := ⟨_, rfl⟩
  rw [hga] at HAG HAR
  have hra : (ra.toList == ra.toList) = true := by simp
  have hgg : (ga.toList == ga.toList) = true := by simp
  have huu : (u.toList == u.toList) = true := by simp
  have HSR := hide (fun h => make_size (k := 10) (n := n) (b := []) (l := [key, u, v]) hn h)
  have HOS := hide (fun (m : Nat) (z : ByteArray) h => open_seal (n := n) (m := m) (x := key) (y := u) (z := v) (v := z) hn h)
  obtain ⟨S, hS⟩ : ∃ S, makeV 10 n [] [key, u, v] = S := ⟨_, rfl⟩
  rw [hS] at HSL HSR HOS
  have HT := hide htab
  clear htab hw hsg hr hga hS hn ht hkey hu hv
  go_enter Tryd.func5, Tryd.ntmps5
  go_upto_region 8 with (first
    | (go_at_call 10; refine (awake02 _ HT.out).mono ?_; rintro e w1 ⟨rfl, ho⟩; have HC := hide ho; clear ho)
    | (go_at_call 21; (with_reducible refine (HOP.out _).mono ?_); rintro e w3 ⟨rfl, ho⟩; replace HC := hide (HC.out.trans ho); (first | (replace HNB := hide (HNB.out.only ho (by simp)); (first | (clear k0 k3) | skip); have k0 := HNB.out.cell 0; have k3 := HNB.out.cell 3; simp at k0 k3; (first | (replace HPT := hide (HPT.out.only ho (by simp)); (first | (clear s0 s1) | skip); obtain ⟨s0, s1⟩ := two_cells HPT.out) | skip)) | skip); clear ho)
    | (go_at_call 22; (with_reducible refine (HOR.out _).mono ?_); rintro e w3 ⟨rfl, ho⟩; replace HC := hide (HC.out.trans ho); (first | (replace HNB := hide (HNB.out.only ho (by simp)); (first | (clear k0 k3) | skip); have k0 := HNB.out.cell 0; have k3 := HNB.out.cell 3; simp at k0 k3; (first | (replace HPT := hide (HPT.out.only ho (by simp)); (first | (clear s0 s1) | skip); obtain ⟨s0, s1⟩ := two_cells HPT.out) | skip)) | skip); clear ho)
    | (go_at_call 23; refine (HRD.out _).mono ?_; rintro e w2 ⟨bv, pv, rfl, ho, hb, hp⟩; obtain ⟨A1, cap1, rfl, _, _⟩ := hb.formb; obtain ⟨A2, cap2, rfl, _, _⟩ := hp.form; replace HC := hide ((HC.out.trans ho).alloc (.cells #[.int .i64 K, .int .u64 (N : Nat), .slice A1 B.length cap1, .slice A2 (strs L).length cap2] 41)); have HNB := hide (Blk.new w2 41 #[.int .i64 K, .int .u64 (N : Nat), .slice A1 B.length cap1, .slice A2 (strs L).length cap2]); clear ho hb hp))
  generalize w2.heap.size = G at *
  clear HOP HOR HRD
  have k0 := HNB.out.cell 0
  have k3 := HNB.out.cell 3
  simp at k0 k3
  refine wp_region_held_drew (S := (fun w' => w'.cell? ⟨G, 0, none⟩ = some (.int .i64 K) ∧ w'.cell? ⟨G, 3, none⟩ = some (.slice A2 (strs L).length cap2))) (by kernel_rfl) (by exact ⟨k0, k3⟩) (fun hHeld => ?_)
  refine wpAnyH_take (i := 0) (v := ?_) rfl (by kernel_rfl) (by kernel_rfl) (by kernel_rfl) (fun _ _ _ h => h) (Or.inl ⟨by rfl, ?_⟩) (by assumption) ?_
  rotate_left
  · (intro w hSw; (try dsimp only at hSw); go_simp; try with_reducible rfl)
  try simp only [List.getElem_toArray, List.getElem_cons_succ, List.getElem_cons_zero, Act.put, List.setIfInBounds_toArray, List.set_cons_zero, List.set_cons_succ]
  refine wpAnyH_take (i := 1) (v := ?_) rfl (by kernel_rfl) (by kernel_rfl) (by kernel_rfl) (fun _ _ _ h => h) (Or.inl ⟨by rfl, ?_⟩) (by assumption) ?_
  rotate_left
  · (intro w hSw; (try dsimp only at hSw); go_simp; try with_reducible rfl)
  try simp only [List.getElem_toArray, List.getElem_cons_succ, List.getElem_cons_zero, Act.put, List.setIfInBounds_toArray, List.set_cons_zero, List.set_cons_succ]
  refine wpAnyH_take (i := 2) (v := ?_) rfl (by kernel_rfl) (by kernel_rfl) (by kernel_rfl) (fun _ _ _ h => h) (Or.inl ⟨by rfl, ?_⟩) (by assumption) ?_
  rotate_left
  · (intro w hSw; (try dsimp only at hSw); go_simp; try with_reducible rfl)
  try simp only [List.getElem_toArray, List.getElem_cons_succ, List.getElem_cons_zero, Act.put, List.setIfInBounds_toArray, List.set_cons_zero, List.set_cons_succ]
  refine wpAnyH_take (i := 3) (v := ?_) rfl (by kernel_rfl) (by kernel_rfl) (by kernel_rfl) (fun _ _ _ h => h) (Or.inl ⟨by rfl, ?_⟩) (by assumption) ?_
  rotate_left
  · (intro w hSw; (try dsimp only at hSw); go_simp; try with_reducible rfl)
  try simp only [List.getElem_toArray, List.getElem_cons_succ, List.getElem_cons_zero, Act.put, List.setIfInBounds_toArray, List.set_cons_zero, List.set_cons_succ]
  refine wpAnyH_take (i := 4) (v := ?_) rfl (by kernel_rfl) (by kernel_rfl) (by kernel_rfl) (fun _ _ _ h => h) (Or.inl ⟨by rfl, ?_⟩) (by assumption) ?_
  rotate_left
  · (intro w hSw; (try dsimp only at hSw); go_simp; try with_reducible rfl)
  try simp only [List.getElem_toArray, List.getElem_cons_succ, List.getElem_cons_zero, Act.put, List.setIfInBounds_toArray, List.set_cons_zero, List.set_cons_succ]
  refine wpAnyH_take (i := 5) (v := ?_) rfl (by kernel_rfl) (by kernel_rfl) (by kernel_rfl) (fun _ _ _ h => h) (Or.inl ⟨by rfl, ?_⟩) (by assumption) ?_
  rotate_left
  · (intro w hSw; (try dsimp only at hSw); go_simp; try with_reducible rfl)
  try simp only [List.getElem_toArray, List.getElem_cons_succ, List.getElem_cons_zero, Act.put, List.setIfInBounds_toArray, List.set_cons_zero, List.set_cons_succ]
  refine wpAnyH_take (i := 6) (v := ?_) rfl (by kernel_rfl) (by kernel_rfl) (by kernel_rfl) (fun _ _ _ h => h) (Or.inl ⟨by rfl, ?_⟩) (by assumption) ?_
  rotate_left
  · (intro w hSw; (try dsimp only at hSw); go_simp; try with_reducible rfl)
  try simp only [List.getElem_toArray, List.getElem_cons_succ, List.getElem_cons_zero, Act.put, List.setIfInBounds_toArray, List.set_cons_zero, List.set_cons_succ]
  refine wpAnyH_take (i := 7) (v := ?_) rfl (by kernel_rfl) (by kernel_rfl) (by kernel_rfl) (fun _ _ _ h => h) (Or.inl ⟨by rfl, ?_⟩) (by assumption) ?_
  rotate_left
  · (intro w hSw; (try dsimp only at hSw); go_simp; try with_reducible rfl)
  try simp only [List.getElem_toArray, List.getElem_cons_succ, List.getElem_cons_zero, Act.put, List.setIfInBounds_toArray, List.set_cons_zero, List.set_cons_succ]
  refine wpAnyH_take (i := 8) (v := ?_) rfl (by kernel_rfl) (by kernel_rfl) (by kernel_rfl) (fun _ _ _ h => h) (Or.inl ⟨by rfl, ?_⟩) (by assumption) ?_
  rotate_left
  · (intro w hSw; (try dsimp only at hSw); go_simp; try with_reducible rfl)
  try simp only [List.getElem_toArray, List.getElem_cons_succ, List.getElem_cons_zero, Act.put, List.setIfInBounds_toArray, List.set_cons_zero, List.set_cons_succ]
  refine wpAnyH_take (i := 9) (v := ?_) rfl (by kernel_rfl) (by kernel_rfl) (by kernel_rfl) (fun _ _ _ h => h) (Or.inl ⟨by rfl, ?_⟩) (by assumption) ?_
  rotate_left
  · (intro w hSw; (try dsimp only at hSw); go_simp; try with_reducible rfl)
  try simp only [List.getElem_toArray, List.getElem_cons_succ, List.getElem_cons_zero, Act.put, List.setIfInBounds_toArray, List.set_cons_zero, List.set_cons_succ]
  refine wpAnyH_take (i := 10) (v := ?_) rfl (by kernel_rfl) (by kernel_rfl) (by kernel_rfl) (fun _ _ _ h => h) (Or.inl ⟨by rfl, ?_⟩) (by assumption) ?_
  rotate_left
  · (intro w hSw; (try dsimp only at hSw); go_simp; try with_reducible rfl)
  try simp only [List.getElem_toArray, List.getElem_cons_succ, List.getElem_cons_zero, Act.put, List.setIfInBounds_toArray, List.set_cons_zero, List.set_cons_succ]
  refine wpAnyH_take (i := 11) (v := ?_) rfl (by kernel_rfl) (by kernel_rfl) (by kernel_rfl) (fun _ _ _ h => h) (Or.inl ⟨by rfl, ?_⟩) (by assumption) ?_
  rotate_left
  · (intro w hSw; (try dsimp only at hSw); go_simp; try with_reducible rfl)
  try simp only [List.getElem_toArray, List.getElem_cons_succ, List.getElem_cons_zero, Act.put, List.setIfInBounds_toArray, List.set_cons_zero, List.set_cons_succ]
  refine wpAnyH_take (i := 13) (v := ?_) rfl (by kernel_rfl) (by kernel_rfl) (by kernel_rfl) (fun _ _ _ h => h) (Or.inl ⟨by rfl, ?_⟩) (by assumption) ?_
  rotate_left
  · (intro w hSw; (try dsimp only at hSw); go_simp; try with_reducible rfl)
  try simp only [List.getElem_toArray, List.getElem_cons_succ, List.getElem_cons_zero, Act.put, List.setIfInBounds_toArray, List.set_cons_zero, List.set_cons_succ]
  refine wpAnyH_take (i := 14) (v := ?_) rfl (by kernel_rfl) (by kernel_rfl) (by kernel_rfl) (fun _ _ _ h => h) (Or.inl ⟨by rfl, ?_⟩) (by assumption) ?_
  rotate_left
  · (intro w hSw; (try dsimp only at hSw); go_simp; try with_reducible rfl)
  try simp only [List.getElem_toArray, List.getElem_cons_succ, List.getElem_cons_zero, Act.put, List.setIfInBounds_toArray, List.set_cons_zero, List.set_cons_succ]
  refine wpAnyH_take (i := 15) (v := ?_) rfl (by kernel_rfl) (by kernel_rfl) (by kernel_rfl) (fun _ _ _ h => h) (Or.inl ⟨by rfl, ?_⟩) (by assumption) ?_
  rotate_left
  · (intro w hSw; (try dsimp only at hSw); go_simp; try with_reducible rfl)
  try simp only [List.getElem_toArray, List.getElem_cons_succ, List.getElem_cons_zero, Act.put, List.setIfInBounds_toArray, List.set_cons_zero, List.set_cons_succ]
  refine wpAnyH_ready (rs := [12]) (by kernel_rfl) (by simp) ?_
  refine AllReadyH.cons rfl (fun K hK => ?_) AllReadyH.nil
  go_simp
  (go_at_call 24; (with_reducible refine (HSG.out _).mono ?_); rintro e w3 ⟨rfl, ho⟩; (first | (replace ho := undrew ho) | skip); replace HC := hide (HC.out.trans ho); (first | (replace HNB := hide (HNB.out.only ho (by simp)); (first | (clear k0 k3) | skip); have k0 := HNB.out.cell 0; have k3 := HNB.out.cell 3; simp at k0 k3; (first | (replace HPT := hide (HPT.out.only ho (by simp)); (first | (clear s0 s1) | skip); obtain ⟨s0, s1⟩ := two_cells HPT.out) | skip)) | skip); clear ho)
  refine hK.out _ _ (by exact ⟨k0, k3⟩) (fun hHeld => ?_)
  clear hK K
  try simp only [List.getElem_toArray, List.getElem_cons_succ, List.getElem_cons_zero, Act.put, List.setIfInBounds_toArray, List.set_cons_zero, List.set_cons_succ]
  refine wpAnyH_take (i := 16) (v := ?_) rfl (by kernel_rfl) (by kernel_rfl) (by kernel_rfl) (fun _ _ _ h => h) (Or.inl ⟨by rfl, ?_⟩) (by assumption) ?_
  rotate_left
  · (intro w hSw; (try dsimp only at hSw); go_simp; try with_reducible rfl)
  try simp only [List.getElem_toArray, List.getElem_cons_succ, List.getElem_cons_zero, Act.put, List.setIfInBounds_toArray, List.set_cons_zero, List.set_cons_succ]
  refine wpAnyH_take (i := 17) (v := undef) rfl (by kernel_rfl) (by kernel_rfl) (by kernel_rfl) (fun _ _ _ h => h) (Or.inr ⟨by rfl, rfl⟩) (by assumption) ?_
  try simp only [List.getElem_toArray, List.getElem_cons_succ, List.getElem_cons_zero, Act.put, List.setIfInBounds_toArray, List.set_cons_zero, List.set_cons_succ]
  refine wpAnyH_take (i := 18) (v := undef) rfl (by kernel_rfl) (by kernel_rfl) (by kernel_rfl) (fun _ _ _ h => h) (Or.inr ⟨by rfl, rfl⟩) (by assumption) ?_
  try simp only [List.getElem_toArray, List.getElem_cons_succ, List.getElem_cons_zero, Act.put, List.setIfInBounds_toArray, List.set_cons_zero, List.set_cons_succ]
  refine wpAnyH_take (i := 19) (v := undef) rfl (by kernel_rfl) (by kernel_rfl) (by kernel_rfl) (fun _ _ _ h => h) (Or.inr ⟨by rfl, rfl⟩) (by assumption) ?_
  try simp only [List.getElem_toArray, List.getElem_cons_succ, List.getElem_cons_zero, Act.put, List.setIfInBounds_toArray, List.set_cons_zero, List.set_cons_succ]
  refine wpAnyH_take (i := 20) (v := undef) rfl (by kernel_rfl) (by kernel_rfl) (by kernel_rfl) (fun _ _ _ h => h) (Or.inr ⟨by rfl, rfl⟩) (by assumption) ?_
  try simp only [List.getElem_toArray, List.getElem_cons_succ, List.getElem_cons_zero, Act.put, List.setIfInBounds_toArray, List.set_cons_zero, List.set_cons_succ]
  refine wpAnyH_take (i := 21) (v := undef) rfl (by kernel_rfl) (by kernel_rfl) (by kernel_rfl) (fun _ _ _ h => h) (Or.inr ⟨by rfl, rfl⟩) (by assumption) ?_
  try simp only [List.getElem_toArray, List.getElem_cons_succ, List.getElem_cons_zero, Act.put, List.setIfInBounds_toArray, List.set_cons_zero, List.set_cons_succ]
  refine wpAnyH_take (i := 22) (v := undef) rfl (by kernel_rfl) (by kernel_rfl) (by kernel_rfl) (fun _ _ _ h => h) (Or.inr ⟨by rfl, rfl⟩) (by assumption) ?_
  try simp only [List.getElem_toArray, List.getElem_cons_succ, List.getElem_cons_zero, Act.put, List.setIfInBounds_toArray, List.set_cons_zero, List.set_cons_succ]
  refine wpAnyH_take (i := 23) (v := ?_) rfl (by kernel_rfl) (by kernel_rfl) (by kernel_rfl) (fun _ _ _ h => h) (Or.inl ⟨by rfl, ?_⟩) (by assumption) ?_
  rotate_left
  · (intro w hSw; (try dsimp only at hSw); go_simp; try with_reducible rfl)
  try simp only [List.getElem_toArray, List.getElem_cons_succ, List.getElem_cons_zero, Act.put, List.setIfInBounds_toArray, List.set_cons_zero, List.set_cons_succ]
  refine wpAnyH_take (i := 24) (v := ?_) rfl (by kernel_rfl) (by kernel_rfl) (by kernel_rfl) (fun _ _ _ h => h) (Or.inl ⟨by rfl, ?_⟩) (by assumption) ?_
  rotate_left
  · (intro w hSw; (try dsimp only at hSw); go_simp; try with_reducible rfl)
  try simp only [List.getElem_toArray, List.getElem_cons_succ, List.getElem_cons_zero, Act.put, List.setIfInBounds_toArray, List.set_cons_zero, List.set_cons_succ]
  refine wpAnyH_take (i := 25) (v := undef) rfl (by kernel_rfl) (by kernel_rfl) (by kernel_rfl) (fun _ _ _ h => h) (Or.inr ⟨by rfl, rfl⟩) (by assumption) ?_
  try simp only [List.getElem_toArray, List.getElem_cons_succ, List.getElem_cons_zero, Act.put, List.setIfInBounds_toArray, List.set_cons_zero, List.set_cons_succ]
  refine wpAnyH_take (i := 26) (v := undef) rfl (by kernel_rfl) (by kernel_rfl) (by kernel_rfl) (fun _ _ _ h => h) (Or.inr ⟨by rfl, rfl⟩) (by assumption) ?_
  try simp only [List.getElem_toArray, List.getElem_cons_succ, List.getElem_cons_zero, Act.put, List.setIfInBounds_toArray, List.set_cons_zero, List.set_cons_succ]
  refine wpAnyH_take (i := 27) (v := undef) rfl (by kernel_rfl) (by kernel_rfl) (by kernel_rfl) (fun _ _ _ h => h) (Or.inr ⟨by rfl, rfl⟩) (by assumption) ?_
  try simp only [List.getElem_toArray, List.getElem_cons_succ, List.getElem_cons_zero, Act.put, List.setIfInBounds_toArray, List.set_cons_zero, List.set_cons_succ]
  refine wpAnyH_take (i := 28) (v := undef) rfl (by kernel_rfl) (by kernel_rfl) (by kernel_rfl) (fun _ _ _ h => h) (Or.inr ⟨by rfl, rfl⟩) (by assumption) ?_
  try simp only [List.getElem_toArray, List.getElem_cons_succ, List.getElem_cons_zero, Act.put, List.setIfInBounds_toArray, List.set_cons_zero, List.set_cons_succ]
  refine wpAnyH_take (i := 29) (v := undef) rfl (by kernel_rfl) (by kernel_rfl) (by kernel_rfl) (fun _ _ _ h => h) (Or.inr ⟨by rfl, rfl⟩) (by assumption) ?_
  try simp only [List.getElem_toArray, List.getElem_cons_succ, List.getElem_cons_zero, Act.put, List.setIfInBounds_toArray, List.set_cons_zero, List.set_cons_succ]
  refine wpAnyH_take (i := 30) (v := undef) rfl (by kernel_rfl) (by kernel_rfl) (by kernel_rfl) (fun _ _ _ h => h) (Or.inr ⟨by rfl, rfl⟩) (by assumption) ?_
  try simp only [List.getElem_toArray, List.getElem_cons_succ, List.getElem_cons_zero, Act.put, List.setIfInBounds_toArray, List.set_cons_zero, List.set_cons_succ]
  refine wpAnyH_take (i := 31) (v := ?_) rfl (by kernel_rfl) (by kernel_rfl) (by kernel_rfl) (fun _ _ _ h => h) (Or.inl ⟨by rfl, ?_⟩) (by assumption) ?_
  rotate_left
  · (intro w hSw; (try dsimp only at hSw); go_simp; try with_reducible rfl)
  try simp only [List.getElem_toArray, List.getElem_cons_succ, List.getElem_cons_zero, Act.put, List.setIfInBounds_toArray, List.set_cons_zero, List.set_cons_succ]
  refine wpAnyH_take (i := 32) (v := ?_) rfl (by kernel_rfl) (by kernel_rfl) (by kernel_rfl) (fun _ _ _ h => h) (Or.inl ⟨by rfl, ?_⟩) (by assumption) ?_
  rotate_left
  · (intro w hSw; (try dsimp only at hSw); go_simp; try with_reducible rfl)
  try simp only [List.getElem_toArray, List.getElem_cons_succ, List.getElem_cons_zero, Act.put, List.setIfInBounds_toArray, List.set_cons_zero, List.set_cons_succ]
  refine wpAnyH_take (i := 33) (v := ?_) rfl (by kernel_rfl) (by kernel_rfl) (by kernel_rfl) (fun _ _ _ h => h) (Or.inl ⟨by rfl, ?_⟩) (by assumption) ?_
  rotate_left
  · (intro w hSw; (try dsimp only at hSw); go_simp; try with_reducible rfl)
  try simp only [List.getElem_toArray, List.getElem_cons_succ, List.getElem_cons_zero, Act.put, List.setIfInBounds_toArray, List.set_cons_zero, List.set_cons_succ]
  refine wpAnyH_take (i := 34) (v := ?_) rfl (by kernel_rfl) (by kernel_rfl) (by kernel_rfl) (fun _ _ _ h => h) (Or.inl ⟨by rfl, ?_⟩) (by assumption) ?_
  rotate_left
  · (intro w hSw; (try dsimp only at hSw); go_simp; try with_reducible rfl)
  try simp only [List.getElem_toArray, List.getElem_cons_succ, List.getElem_cons_zero, Act.put, List.setIfInBounds_toArray, List.set_cons_zero, List.set_cons_succ]
  refine wpAnyH_take (i := 35) (v := ?_) rfl (by kernel_rfl) (by kernel_rfl) (by kernel_rfl) (fun _ _ _ h => h) (Or.inl ⟨by rfl, ?_⟩) (by assumption) ?_
  rotate_left
  · (intro w hSw; (try dsimp only at hSw); go_simp; try with_reducible rfl)
  try simp only [List.getElem_toArray, List.getElem_cons_succ, List.getElem_cons_zero, Act.put, List.setIfInBounds_toArray, List.set_cons_zero, List.set_cons_succ]
  refine wpAnyH_take (i := 36) (v := ?_) rfl (by kernel_rfl) (by kernel_rfl) (by kernel_rfl) (fun _ _ _ h => h) (Or.inl ⟨by rfl, ?_⟩) (by assumption) ?_
  rotate_left
  · (intro w hSw; (try dsimp only at hSw); go_simp; try with_reducible rfl)
  try simp only [List.getElem_toArray, List.getElem_cons_succ, List.getElem_cons_zero, Act.put, List.setIfInBounds_toArray, List.set_cons_zero, List.set_cons_succ]
  refine wpAnyH_take (i := 38) (v := ?_) rfl (by kernel_rfl) (by kernel_rfl) (by kernel_rfl) (fun _ _ _ h => h) (Or.inl ⟨by rfl, ?_⟩) (by assumption) ?_
  rotate_left
  · (intro w hSw; (try dsimp only at hSw); go_simp; try with_reducible rfl)
  try simp only [List.getElem_toArray, List.getElem_cons_succ, List.getElem_cons_zero, Act.put, List.setIfInBounds_toArray, List.set_cons_zero, List.set_cons_succ]
  refine wpAnyH_take (i := 39) (v := ?_) rfl (by kernel_rfl) (by kernel_rfl) (by kernel_rfl) (fun _ _ _ h => h) (Or.inl ⟨by rfl, ?_⟩) (by assumption) ?_
  rotate_left
  · (intro w hSw; (try dsimp only at hSw); go_simp; try with_reducible rfl)
  try simp only [List.getElem_toArray, List.getElem_cons_succ, List.getElem_cons_zero, Act.put, List.setIfInBounds_toArray, List.set_cons_zero, List.set_cons_succ]
  refine wpAnyH_ready (rs := [37]) (by kernel_rfl) (by simp) ?_
  refine AllReadyH.cons rfl (fun K hK => ?_) AllReadyH.nil
  go_simp
  (go_at_call 13; refine (HAG.out _ (HT.out.only HC.out (by simp))).mono ?_; rintro e w4 ⟨rfl, ho⟩; (first | (replace ho := undrew ho) | skip); replace HC := hide (HC.out.trans ho); (first | (replace HNB := hide (HNB.out.only ho (by simp)); (first | (clear k0 k3) | skip); have k0 := HNB.out.cell 0; have k3 := HNB.out.cell 3; simp at k0 k3; (first | (replace HPT := hide (HPT.out.only ho (by simp)); (first | (clear s0 s1) | skip); obtain ⟨s0, s1⟩ := two_cells HPT.out) | skip)) | skip); clear ho)
  refine hK.out _ _ (by exact ⟨k0, k3⟩) (fun hHeld => ?_)
  clear hK K
  try simp only [List.getElem_toArray, List.getElem_cons_succ, List.getElem_cons_zero, Act.put, List.setIfInBounds_toArray, List.set_cons_zero, List.set_cons_succ]
  refine wpAnyH_ready (rs := [40]) (by kernel_rfl) (by simp) ?_
  refine AllReadyH.cons rfl (fun K hK => ?_) AllReadyH.nil
  go_simp
  (go_at_call 14; (with_reducible refine (HAR.out _).mono ?_); rintro e w3 ⟨rfl, ho⟩; (first | (replace ho := undrew ho) | skip); replace HC := hide (HC.out.trans ho); (first | (replace HNB := hide (HNB.out.only ho (by simp)); (first | (clear k0 k3) | skip); have k0 := HNB.out.cell 0; have k3 := HNB.out.cell 3; simp at k0 k3; (first | (replace HPT := hide (HPT.out.only ho (by simp)); (first | (clear s0 s1) | skip); obtain ⟨s0, s1⟩ := two_cells HPT.out) | skip)) | skip); clear ho)
  refine hK.out _ _ (by exact ⟨k0, k3⟩) (fun hHeld => ?_)
  clear hK K
  try simp only [List.getElem_toArray, List.getElem_cons_succ, List.getElem_cons_zero, Act.put, List.setIfInBounds_toArray, List.set_cons_zero, List.set_cons_succ]
  refine wpAnyH_take (i := 41) (v := ?_) rfl (by kernel_rfl) (by kernel_rfl) (by kernel_rfl) (fun _ _ _ h => h) (Or.inl ⟨by rfl, ?_⟩) (by assumption) ?_
  rotate_left
  · (intro w hSw; (try dsimp only at hSw); go_simp; try with_reducible rfl)
  try simp only [List.getElem_toArray, List.getElem_cons_succ, List.getElem_cons_zero, Act.put, List.setIfInBounds_toArray, List.set_cons_zero, List.set_cons_succ]
  refine wpAnyH_take (i := 42) (v := ?_) rfl (by kernel_rfl) (by kernel_rfl) (by kernel_rfl) (fun _ _ _ h => h) (Or.inl ⟨by rfl, ?_⟩) (by assumption) ?_
  rotate_left
  · (intro w hSw; (try dsimp only at hSw); go_simp; try with_reducible rfl)
  try simp only [List.getElem_toArray, List.getElem_cons_succ, List.getElem_cons_zero, Act.put, List.setIfInBounds_toArray, List.set_cons_zero, List.set_cons_succ]
  refine wpAnyH_done (by kernel_rfl) ?_ _
  all_goals
    by_cases hne : S = ByteArray.empty
    · have hse : S.toList.isEmpty = true := by rw [hne]; exact empty_yes
      clear hne
      go_wp2_with (go_at_call 25; (with_reducible refine (HSL.out _).mono ?_); rintro e w3 ⟨rfl, ho⟩; replace HC := hide (HC.out.trans ho); (first | (replace HNB := hide (HNB.out.only ho (by simp)); (first | (clear k0 k3) | skip); have k0 := HNB.out.cell 0; have k3 := HNB.out.cell 3; simp at k0 k3; (first | (replace HPT := hide (HPT.out.only ho (by simp)); (first | (clear s0 s1) | skip); obtain ⟨s0, s1⟩ := two_cells HPT.out) | skip)) | skip); clear ho)
      go_ret
      exact ⟨rfl, HC.out⟩
    · have hse : S.toList.isEmpty = false := empty_no hne
      have hss : S.size ≤ maxLen := by have := HSR.out hne; unfold maxLen; omega
      have HO1 := hide (fun W => Open_any W S key v n hss)
      have HO2 := hide (fun W => Open_any W S key v m hss)
      have HO3 := hide (fun W => Open_any W S key t n hss)
      unfold OpenPost at HO1 HO2 HO3
      rw [HOS.out n v hne, if_pos ⟨rfl, rfl⟩] at HO1
      rw [HOS.out m v hne] at HO2
      rw [HOS.out n t hne] at HO3
      by_cases hm : m = n
      · by_cases htv : t = v
        · rw [if_pos ⟨hm, rfl⟩] at HO2
          rw [if_pos ⟨rfl, htv⟩] at HO3
          have hmb : ((m : Int) == (n : Int)) = true := by rw [hm]; simp
          have htb : (t.toList == v.toList) = true := by rw [htv]; simp
          simp only at HO1 HO2 HO3
          clear hne hm htv hss
          go_wp2_with (first
            | (go_at_call 25; (with_reducible refine (HSL.out _).mono ?_); rintro e w3 ⟨rfl, ho⟩; replace HC := hide (HC.out.trans ho); (first | (replace HNB := hide (HNB.out.only ho (by simp)); (first | (clear k0 k3) | skip); have k0 := HNB.out.cell 0; have k3 := HNB.out.cell 3; simp at k0 k3; (first | (replace HPT := hide (HPT.out.only ho (by simp)); (first | (clear s0 s1) | skip); obtain ⟨s0, s1⟩ := two_cells HPT.out) | skip)) | skip); clear ho)
            | (go_at_call 21; (with_reducible refine (HO1.out _).mono ?_); rintro e w5 ⟨rfl, ho⟩; replace HC := hide (HC.out.trans ho); clear ho)
            | (go_at_call 21; (with_reducible refine (HO2.out _).mono ?_); rintro e w5 ⟨rfl, ho⟩; replace HC := hide (HC.out.trans ho); clear ho)
            | (go_at_call 21; (with_reducible refine (HO3.out _).mono ?_); rintro e w5 ⟨rfl, ho⟩; replace HC := hide (HC.out.trans ho); clear ho))
          go_ret
          exact ⟨rfl, HC.out⟩
        · rw [if_pos ⟨hm, rfl⟩] at HO2
          rw [if_neg (fun c => htv c.2)] at HO3
          have hmb : ((m : Int) == (n : Int)) = true := by rw [hm]; simp
          have htb : (t.toList == v.toList) = false := by exact toList_no htv
          simp only at HO1 HO2 HO3
          clear hne hm htv hss
          go_wp2_with (first
            | (go_at_call 25; (with_reducible refine (HSL.out _).mono ?_); rintro e w3 ⟨rfl, ho⟩; replace HC := hide (HC.out.trans ho); (first | (replace HNB := hide (HNB.out.only ho (by simp)); (first | (clear k0 k3) | skip); have k0 := HNB.out.cell 0; have k3 := HNB.out.cell 3; simp at k0 k3; (first | (replace HPT := hide (HPT.out.only ho (by simp)); (first | (clear s0 s1) | skip); obtain ⟨s0, s1⟩ := two_cells HPT.out) | skip)) | skip); clear ho)
            | (go_at_call 21; (with_reducible refine (HO1.out _).mono ?_); rintro e w5 ⟨rfl, ho⟩; replace HC := hide (HC.out.trans ho); clear ho)
            | (go_at_call 21; (with_reducible refine (HO2.out _).mono ?_); rintro e w5 ⟨rfl, ho⟩; replace HC := hide (HC.out.trans ho); clear ho)
            | (go_at_call 21; (with_reducible refine (HO3.out _).mono ?_); rintro e w5 ⟨rfl, ho⟩; replace HC := hide (HC.out.trans ho); clear ho))
          go_ret
          exact ⟨rfl, HC.out⟩
      · by_cases htv : t = v
        · rw [if_neg (fun c => hm c.1)] at HO2
          rw [if_pos ⟨rfl, htv⟩] at HO3
          have hmb : ((m : Int) == (n : Int)) = false := by rw [beq_eq_false_iff_ne]; omega
          have htb : (t.toList == v.toList) = true := by rw [htv]; simp
          simp only at HO1 HO2 HO3
          clear hne hm htv hss
          go_wp2_with (first
            | (go_at_call 25; (with_reducible refine (HSL.out _).mono ?_); rintro e w3 ⟨rfl, ho⟩; replace HC := hide (HC.out.trans ho); (first | (replace HNB := hide (HNB.out.only ho (by simp)); (first | (clear k0 k3) | skip); have k0 := HNB.out.cell 0; have k3 := HNB.out.cell 3; simp at k0 k3; (first | (replace HPT := hide (HPT.out.only ho (by simp)); (first | (clear s0 s1) | skip); obtain ⟨s0, s1⟩ := two_cells HPT.out) | skip)) | skip); clear ho)
            | (go_at_call 21; (with_reducible refine (HO1.out _).mono ?_); rintro e w5 ⟨rfl, ho⟩; replace HC := hide (HC.out.trans ho); clear ho)
            | (go_at_call 21; (with_reducible refine (HO2.out _).mono ?_); rintro e w5 ⟨rfl, ho⟩; replace HC := hide (HC.out.trans ho); clear ho)
            | (go_at_call 21; (with_reducible refine (HO3.out _).mono ?_); rintro e w5 ⟨rfl, ho⟩; replace HC := hide (HC.out.trans ho); clear ho))
          go_ret
          exact ⟨rfl, HC.out⟩
        · rw [if_neg (fun c => hm c.1)] at HO2
          rw [if_neg (fun c => htv c.2)] at HO3
          have hmb : ((m : Int) == (n : Int)) = false := by rw [beq_eq_false_iff_ne]; omega
          have htb : (t.toList == v.toList) = false := by exact toList_no htv
          simp only at HO1 HO2 HO3
          clear hne hm htv hss
          go_wp2_with (first
            | (go_at_call 25; (with_reducible refine (HSL.out _).mono ?_); rintro e w3 ⟨rfl, ho⟩; replace HC := hide (HC.out.trans ho); (first | (replace HNB := hide (HNB.out.only ho (by simp)); (first | (clear k0 k3) | skip); have k0 := HNB.out.cell 0; have k3 := HNB.out.cell 3; simp at k0 k3; (first | (replace HPT := hide (HPT.out.only ho (by simp)); (first | (clear s0 s1) | skip); obtain ⟨s0, s1⟩ := two_cells HPT.out) | skip)) | skip); clear ho)
            | (go_at_call 21; (with_reducible refine (HO1.out _).mono ?_); rintro e w5 ⟨rfl, ho⟩; replace HC := hide (HC.out.trans ho); clear ho)
            | (go_at_call 21; (with_reducible refine (HO2.out _).mono ?_); rintro e w5 ⟨rfl, ho⟩; replace HC := hide (HC.out.trans ho); clear ho)
            | (go_at_call 21; (with_reducible refine (HO3.out _).mono ?_); rintro e w5 ⟨rfl, ho⟩; replace HC := hide (HC.out.trans ho); clear ho))
          go_ret
          exact ⟨rfl, HC.out⟩
end Go.Proofs.YtfmfnfmhknlpbaaDoor

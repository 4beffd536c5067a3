/-
  Walks and plain words (texts Apw). No condition beyond those that each theorem states.
-/
import Derived.Test.YthecnaclfhfilaaDoorC02
namespace Go.Proofs.YthecnaclfhfilaaDoor
section
open Go.RowKit Go.Deep

theorem isplain_no {l : List UInt8} {b : Nat} (hr : rightV l b = true) (hp : ¬ plainV l b = l) : isPlain l (b : Int) = false := by
  cases h : isPlain l (b : Int) with
  | false => rfl
  | true => exact absurd (isPlain_iff.1 h).2 hp
set_option maxRecDepth 100000 in
set_option maxHeartbeats 12800000 in
theorem ap_bad (v : Value) (l : List UInt8) (w : World) (hv : Rd w [] v (ints .u8 (byts l))) (hl : l.length ≤ 40) (b : Int) (h4 : ¬ l.length = 4) (h16 : ¬ l.length = 16) (htab : Tab w) : Calls Tryd.prog 4 #[.agg #[v, .int .i64 b]] w (TrueS w) := by
  have HO := hide ((Only.refl [] w).alloc (.cells #[v, .int .i64 b] 30))
  have HV := hide (hv.only HO.out (by simp))
  have HBX := hide (Blk.new w 30 #[v, .int .i64 b])
  have HT := hide (htab.only HO.out (by simp))
  have HC := HO
  obtain ⟨A, cap, rfl, hcp, hcm⟩ := hv.formb
  have hl2 : ¬ (40 : Int) < (l.length : Int) := by omega
  have e4 : ((l.length : Int) != 4) = true := by rw [bne_iff_ne]; omega
  have e16 : ((l.length : Int) != 16) = true := by rw [bne_iff_ne]; omega
  have HN := hide (show isPlain l b = false by unfold isPlain rightV; simp [h4, h16])
  have H4 := hide h4
  have H16 := hide h16
  have HPR := hide (fun W (h : Rd W [] (.slice A l.length cap) (ints .u8 (byts l))) => print_bad _ l _ W h H4.out H16.out)
  have HPP := hide (fun W (h : Rd W [] (.slice A l.length cap) (ints .u8 (byts l))) => pp_no _ l b _ W h HN.out)
  unfold TwoS at HPR
  clear h4 h16
  clear hv htab
  go_enter Tryd.func4, Tryd.ntmps4
  go_wp2_with (first
    | (go_at_call 5; refine (awake04 _ HT.out).mono ?_; rintro e w1 ⟨rfl, ho⟩; (first | (have ho := undrew ho) | skip); have HC := hide (HC.out.trans ho); have HT := hide (HT.out.only ho (by simp)); have HV := hide (HV.out.only ho (by simp)); have HBX := hide (HBX.out.only ho (by simp)); have c0 := HBX.out.cell 0; have c1 := HBX.out.cell 1; simp at c0 c1; clear ho)
    | (go_at_call 12; with_reducible refine (HPR.out _ HV.out).mono ?_; rintro e w2 ⟨rfl, ho⟩; (first | (have ho := undrew ho) | skip); have HC := hide (HC.out.trans ho); have HT := hide (HT.out.only ho (by simp)); have HV := hide (HV.out.only ho (by simp)); have HBX := hide (HBX.out.only ho (by simp)); have c0 := HBX.out.cell 0; have c1 := HBX.out.cell 1; simp at c0 c1; clear ho)
    | (go_at_call 13; with_reducible refine (HPP.out _ HV.out).mono ?_; rintro e w3 ⟨rfl, ho⟩; (first | (have ho := undrew ho) | skip); have HC := hide (HC.out.trans ho); have HT := hide (HT.out.only ho (by simp)); have HV := hide (HV.out.only ho (by simp)); have HBX := hide (HBX.out.only ho (by simp)); have c0 := HBX.out.cell 0; have c1 := HBX.out.cell 1; simp at c0 c1; clear ho))
  go_ret
  exact ⟨rfl, HC.out⟩
set_option maxRecDepth 100000 in
set_option maxHeartbeats 12800000 in
theorem ap_unright (v : Value) (l : List UInt8) (w : World) (hv : Rd w [] v (ints .u8 (byts l))) (hl : l.length ≤ 40) (b : Int) (h416 : l.length = 4 ∨ l.length = 16) (hr : rightV l b = false) (htab : Tab w) : Calls Tryd.prog 4 #[.agg #[v, .int .i64 b]] w (TrueS w) := by
  have HO := hide ((Only.refl [] w).alloc (.cells #[v, .int .i64 b] 30))
  have HV := hide (hv.only HO.out (by simp))
  have HBX := hide (Blk.new w 30 #[v, .int .i64 b])
  have HT := hide (htab.only HO.out (by simp))
  have HC := HO
  obtain ⟨A, cap, rfl, hcp, hcm⟩ := hv.formb
  have hl2 : ¬ (40 : Int) < (l.length : Int) := by omega
  have e4 : l.length = 4 → ((l.length : Int) != 4) = false := fun h => by rw [h]; rfl
  have e16 : l.length = 16 → ((l.length : Int) != 4) = true ∧ ((l.length : Int) != 16) = false := fun h => by rw [h]; exact ⟨rfl, rfl⟩
  obtain ⟨X, hX⟩ : ∃ X : ByteArray, X = ⟨(printV l).toArray⟩ := ⟨_, rfl⟩
  have hxl := printV_len (l := l)
  have hxs : X.size ≤ 84 := by rw [hX]; simpa [ByteArray.size] using hxl
  have HPR := hide (fun W (h : Rd W [] (.slice A l.length cap) (ints .u8 (byts l))) (hw : Tab W) => Print_addr _ l _ W h h416 hw)
  have HRP := hide (fun W (h : Rd W [] (.slice A l.length cap) (ints .u8 (byts l))) => refPrint_addr _ l _ W h h416)
  have HRD := hide (fun W => Read_addr W X (by omega))
  rw [hX, readA_print h416, ← hX] at HRD
  unfold TxtPost at HPR
  unfold StrPost at HRP
  unfold BytsPost at HRD
  rw [← hX] at HPR HRP
  simp only at HRD
  have hXX : (X.toList == X.toList) = true := by rw [beq_iff_eq]
  have hXX2 : (X.toList != X.toList) = false := by rw [bne_eq_false_iff_eq]
  have HPP := hide (fun W (h : Rd W [] (.slice A l.length cap) (ints .u8 (byts l))) => pp_no _ l b _ W h (by unfold isPlain; rw [hr]; rfl))
  have FR := hide (show rightN l.length b = false from hr)
  clear hX hr hxl
  clear hv htab
  go_enter Tryd.func4, Tryd.ntmps4
  rcases h416 with h4 | h16
  · have e1 := e4 h4
    clear e4 e16 h4
    go_upto_region 12 with (first
      | (go_at_call 5; refine (awake04 _ HT.out).mono ?_; rintro e w1 ⟨rfl, ho⟩; (first | (have ho := undrew ho) | skip); have HC := hide (HC.out.trans ho); have HT := hide (HT.out.only ho (by simp)); have HV := hide (HV.out.only ho (by simp)); have HBX := hide (HBX.out.only ho (by simp)); have c0 := HBX.out.cell 0; have c1 := HBX.out.cell 1; simp at c0 c1; clear ho)
      | (go_at_call 12; with_reducible refine (HPR.out _ HV.out HT.out).mono ?_; rintro e w2 ⟨rfl, ho⟩; (first | (have ho := undrew ho) | skip); have HC := hide (HC.out.trans ho); have HT := hide (HT.out.only ho (by simp)); have HV := hide (HV.out.only ho (by simp)); have HBX := hide (HBX.out.only ho (by simp)); have c0 := HBX.out.cell 0; have c1 := HBX.out.cell 1; simp at c0 c1; clear ho)
      | (go_at_call 13; with_reducible refine (HPP.out _ HV.out).mono ?_; rintro e w3 ⟨rfl, ho⟩; (first | (have ho := undrew ho) | skip); have HC := hide (HC.out.trans ho); have HT := hide (HT.out.only ho (by simp)); have HV := hide (HV.out.only ho (by simp)); have HBX := hide (HBX.out.only ho (by simp)); have c0 := HBX.out.cell 0; have c1 := HBX.out.cell 1; simp at c0 c1; clear ho)
      | (go_at_call 6; with_reducible refine (HRD.out _).mono ?_; rintro e w4 ⟨v2, rfl, ho, hr2⟩; have HV2 := hide (hr2 [] (by simp)); obtain ⟨A2, cap2, rfl, _, _⟩ := HV2.out.formb; (first | (have ho := undrew ho) | skip); have HC := hide (HC.out.trans ho); have HT := hide (HT.out.only ho (by simp)); have HV := hide (HV.out.only ho (by simp)); have HBX := hide (HBX.out.only ho (by simp)); have c0 := HBX.out.cell 0; have c1 := HBX.out.cell 1; simp at c0 c1; clear ho; clear hr2)
      | (go_at_call 14; with_reducible refine (HRP.out _ HV.out).mono ?_; rintro e w5 ⟨rfl, ho⟩; have HV2 := hide (HV2.out.only ho (by simp)); (first | (have ho := undrew ho) | skip); have HC := hide (HC.out.trans ho); have HT := hide (HT.out.only ho (by simp)); have HV := hide (HV.out.only ho (by simp)); have HBX := hide (HBX.out.only ho (by simp)); have c0 := HBX.out.cell 0; have c1 := HBX.out.cell 1; simp at c0 c1; clear ho)
      | (go_at_call 10; refine (same_yes _ _ l _ _ _ HV2.out HV.out).mono ?_; rintro e w6 ⟨rfl, rfl⟩))
    obtain ⟨Q, hQ⟩ : ∃ Q, Q = w.heap.size := ⟨_, rfl⟩
    rw [← hQ] at HBX c0 c1 ⊢
    clear hQ
    refine wp_region_held_drew (S := (fun w' => w'.cell? ⟨Q, 0, none⟩ = some (.slice A l.length cap) ∧ w'.cell? ⟨Q, 1, none⟩ = some (.int .i64 b))) (by kernel_rfl) (by exact ⟨c0, c1⟩) (fun hHeld => ?_)
    refine wpAnyH_take (i := 0) (v := ?_) rfl (by kernel_rfl) (by kernel_rfl) (by kernel_rfl) (fun _ _ _ h => h) (Or.inl ⟨by rfl, ?_⟩) (by assumption) ?_
    rotate_left
    · (intro w hSw; (try dsimp only at hSw); go_simp; try with_reducible rfl)
    try simp only [List.getElem_toArray, List.getElem_cons_succ, List.getElem_cons_zero, Act.put, List.setIfInBounds_toArray, List.set_cons_zero, List.set_cons_succ]
    refine wpAnyH_ready (rs := [1]) (by kernel_rfl) (by simp) ?_
    refine AllReadyH.cons rfl (fun K hK => ?_) AllReadyH.nil
    go_simp
    go_at_call 15; refine (refright_any _ _ _ _ false FR.out _).mono ?_; rintro e w9 ⟨rfl, ho⟩; (first | (have ho := undrew ho) | skip); have HC := hide (HC.out.trans ho); have HT := hide (HT.out.only ho (by simp)); have HV := hide (HV.out.only ho (by simp)); have HBX := hide (HBX.out.only ho (by simp)); have c0 := HBX.out.cell 0; have c1 := HBX.out.cell 1; simp at c0 c1; (first | (have HRS := hide (HRS.out.only ho (by simp))) | skip); clear ho
    refine hK.out _ _ (by exact ⟨c0, c1⟩) (fun hHeld => ?_)
    clear hK K
    try simp only [List.getElem_toArray, List.getElem_cons_succ, List.getElem_cons_zero, Act.put, List.setIfInBounds_toArray, List.set_cons_zero, List.set_cons_succ]
    refine wpAnyH_take (i := 2) (v := ?_) rfl (by kernel_rfl) (by kernel_rfl) (by kernel_rfl) (fun _ _ _ h => h) (Or.inl ⟨by rfl, ?_⟩) (by assumption) ?_
    rotate_left
    · (intro w hSw; (try dsimp only at hSw); go_simp; try with_reducible rfl)
    try simp only [List.getElem_toArray, List.getElem_cons_succ, List.getElem_cons_zero, Act.put, List.setIfInBounds_toArray, List.set_cons_zero, List.set_cons_succ]
    refine wpAnyH_take (i := 3) (v := ?_) rfl (by kernel_rfl) (by kernel_rfl) (by kernel_rfl) (fun _ _ _ h => h) (Or.inl ⟨by rfl, ?_⟩) (by assumption) ?_
    rotate_left
    · (intro w hSw; (try dsimp only at hSw); go_simp; try with_reducible rfl)
    try simp only [List.getElem_toArray, List.getElem_cons_succ, List.getElem_cons_zero, Act.put, List.setIfInBounds_toArray, List.set_cons_zero, List.set_cons_succ]
    refine wpAnyH_take (i := 4) (v := undef) rfl (by kernel_rfl) (by kernel_rfl) (by kernel_rfl) (fun _ _ _ h => h) (Or.inr ⟨by rfl, rfl⟩) (by assumption) ?_
    try simp only [List.getElem_toArray, List.getElem_cons_succ, List.getElem_cons_zero, Act.put, List.setIfInBounds_toArray, List.set_cons_zero, List.set_cons_succ]
    refine wpAnyH_take (i := 5) (v := undef) rfl (by kernel_rfl) (by kernel_rfl) (by kernel_rfl) (fun _ _ _ h => h) (Or.inr ⟨by rfl, rfl⟩) (by assumption) ?_
    try simp only [List.getElem_toArray, List.getElem_cons_succ, List.getElem_cons_zero, Act.put, List.setIfInBounds_toArray, List.set_cons_zero, List.set_cons_succ]
    refine wpAnyH_take (i := 6) (v := undef) rfl (by kernel_rfl) (by kernel_rfl) (by kernel_rfl) (fun _ _ _ h => h) (Or.inr ⟨by rfl, rfl⟩) (by assumption) ?_
    try simp only [List.getElem_toArray, List.getElem_cons_succ, List.getElem_cons_zero, Act.put, List.setIfInBounds_toArray, List.set_cons_zero, List.set_cons_succ]
    refine wpAnyH_take (i := 7) (v := undef) rfl (by kernel_rfl) (by kernel_rfl) (by kernel_rfl) (fun _ _ _ h => h) (Or.inr ⟨by rfl, rfl⟩) (by assumption) ?_
    try simp only [List.getElem_toArray, List.getElem_cons_succ, List.getElem_cons_zero, Act.put, List.setIfInBounds_toArray, List.set_cons_zero, List.set_cons_succ]
    refine wpAnyH_take (i := 8) (v := undef) rfl (by kernel_rfl) (by kernel_rfl) (by kernel_rfl) (fun _ _ _ h => h) (Or.inr ⟨by rfl, rfl⟩) (by assumption) ?_
    try simp only [List.getElem_toArray, List.getElem_cons_succ, List.getElem_cons_zero, Act.put, List.setIfInBounds_toArray, List.set_cons_zero, List.set_cons_succ]
    refine wpAnyH_take (i := 9) (v := ?_) rfl (by kernel_rfl) (by kernel_rfl) (by kernel_rfl) (fun _ _ _ h => h) (Or.inl ⟨by rfl, ?_⟩) (by assumption) ?_
    rotate_left
    · (intro w hSw; (try dsimp only at hSw); go_simp; try with_reducible rfl)
    try simp only [List.getElem_toArray, List.getElem_cons_succ, List.getElem_cons_zero, Act.put, List.setIfInBounds_toArray, List.set_cons_zero, List.set_cons_succ]
    refine wpAnyH_done (by kernel_rfl) ?_ _
    all_goals
      go_wp2_with fail
      go_ret
      exact ⟨rfl, HC.out⟩
  · obtain ⟨e1, e2⟩ := e16 h16
    clear e4 e16 h16
    go_upto_region 12 with (first
      | (go_at_call 5; refine (awake04 _ HT.out).mono ?_; rintro e w1 ⟨rfl, ho⟩; (first | (have ho := undrew ho) | skip); have HC := hide (HC.out.trans ho); have HT := hide (HT.out.only ho (by simp)); have HV := hide (HV.out.only ho (by simp)); have HBX := hide (HBX.out.only ho (by simp)); have c0 := HBX.out.cell 0; have c1 := HBX.out.cell 1; simp at c0 c1; clear ho)
      | (go_at_call 12; with_reducible refine (HPR.out _ HV.out HT.out).mono ?_; rintro e w2 ⟨rfl, ho⟩; (first | (have ho := undrew ho) | skip); have HC := hide (HC.out.trans ho); have HT := hide (HT.out.only ho (by simp)); have HV := hide (HV.out.only ho (by simp)); have HBX := hide (HBX.out.only ho (by simp)); have c0 := HBX.out.cell 0; have c1 := HBX.out.cell 1; simp at c0 c1; clear ho)
      | (go_at_call 13; with_reducible refine (HPP.out _ HV.out).mono ?_; rintro e w3 ⟨rfl, ho⟩; (first | (have ho := undrew ho) | skip); have HC := hide (HC.out.trans ho); have HT := hide (HT.out.only ho (by simp)); have HV := hide (HV.out.only ho (by simp)); have HBX := hide (HBX.out.only ho (by simp)); have c0 := HBX.out.cell 0; have c1 := HBX.out.cell 1; simp at c0 c1; clear ho)
      | (go_at_call 6; with_reducible refine (HRD.out _).mono ?_; rintro e w4 ⟨v2, rfl, ho, hr2⟩; have HV2 := hide (hr2 [] (by simp)); obtain ⟨A2, cap2, rfl, _, _⟩ := HV2.out.formb; (first | (have ho := undrew ho) | skip); have HC := hide (HC.out.trans ho); have HT := hide (HT.out.only ho (by simp)); have HV := hide (HV.out.only ho (by simp)); have HBX := hide (HBX.out.only ho (by simp)); have c0 := HBX.out.cell 0; have c1 := HBX.out.cell 1; simp at c0 c1; clear ho; clear hr2)
      | (go_at_call 14; with_reducible refine (HRP.out _ HV.out).mono ?_; rintro e w5 ⟨rfl, ho⟩; have HV2 := hide (HV2.out.only ho (by simp)); (first | (have ho := undrew ho) | skip); have HC := hide (HC.out.trans ho); have HT := hide (HT.out.only ho (by simp)); have HV := hide (HV.out.only ho (by simp)); have HBX := hide (HBX.out.only ho (by simp)); have c0 := HBX.out.cell 0; have c1 := HBX.out.cell 1; simp at c0 c1; clear ho)
      | (go_at_call 10; refine (same_yes _ _ l _ _ _ HV2.out HV.out).mono ?_; rintro e w6 ⟨rfl, rfl⟩))
    obtain ⟨Q, hQ⟩ : ∃ Q, Q = w.heap.size := ⟨_, rfl⟩
    rw [← hQ] at HBX c0 c1 ⊢
    clear hQ
    refine wp_region_held_drew (S := (fun w' => w'.cell? ⟨Q, 0, none⟩ = some (.slice A l.length cap) ∧ w'.cell? ⟨Q, 1, none⟩ = some (.int .i64 b))) (by kernel_rfl) (by exact ⟨c0, c1⟩) (fun hHeld => ?_)
    refine wpAnyH_take (i := 0) (v := ?_) rfl (by kernel_rfl) (by kernel_rfl) (by kernel_rfl) (fun _ _ _ h => h) (Or.inl ⟨by rfl, ?_⟩) (by assumption) ?_
    rotate_left
    · (intro w hSw; (try dsimp only at hSw); go_simp; try with_reducible rfl)
    try simp only [List.getElem_toArray, List.getElem_cons_succ, List.getElem_cons_zero, Act.put, List.setIfInBounds_toArray, List.set_cons_zero, List.set_cons_succ]
    refine wpAnyH_ready (rs := [1]) (by kernel_rfl) (by simp) ?_
    refine AllReadyH.cons rfl (fun K hK => ?_) AllReadyH.nil
    go_simp
    go_at_call 15; refine (refright_any _ _ _ _ false FR.out _).mono ?_; rintro e w9 ⟨rfl, ho⟩; (first | (have ho := undrew ho) | skip); have HC := hide (HC.out.trans ho); have HT := hide (HT.out.only ho (by simp)); have HV := hide (HV.out.only ho (by simp)); have HBX := hide (HBX.out.only ho (by simp)); have c0 := HBX.out.cell 0; have c1 := HBX.out.cell 1; simp at c0 c1; (first | (have HRS := hide (HRS.out.only ho (by simp))) | skip); clear ho
    refine hK.out _ _ (by exact ⟨c0, c1⟩) (fun hHeld => ?_)
    clear hK K
    try simp only [List.getElem_toArray, List.getElem_cons_succ, List.getElem_cons_zero, Act.put, List.setIfInBounds_toArray, List.set_cons_zero, List.set_cons_succ]
    refine wpAnyH_take (i := 2) (v := ?_) rfl (by kernel_rfl) (by kernel_rfl) (by kernel_rfl) (fun _ _ _ h => h) (Or.inl ⟨by rfl, ?_⟩) (by assumption) ?_
    rotate_left
    · (intro w hSw; (try dsimp only at hSw); go_simp; try with_reducible rfl)
    try simp only [List.getElem_toArray, List.getElem_cons_succ, List.getElem_cons_zero, Act.put, List.setIfInBounds_toArray, List.set_cons_zero, List.set_cons_succ]
    refine wpAnyH_take (i := 3) (v := ?_) rfl (by kernel_rfl) (by kernel_rfl) (by kernel_rfl) (fun _ _ _ h => h) (Or.inl ⟨by rfl, ?_⟩) (by assumption) ?_
    rotate_left
    · (intro w hSw; (try dsimp only at hSw); go_simp; try with_reducible rfl)
    try simp only [List.getElem_toArray, List.getElem_cons_succ, List.getElem_cons_zero, Act.put, List.setIfInBounds_toArray, List.set_cons_zero, List.set_cons_succ]
    refine wpAnyH_take (i := 4) (v := undef) rfl (by kernel_rfl) (by kernel_rfl) (by kernel_rfl) (fun _ _ _ h => h) (Or.inr ⟨by rfl, rfl⟩) (by assumption) ?_
    try simp only [List.getElem_toArray, List.getElem_cons_succ, List.getElem_cons_zero, Act.put, List.setIfInBounds_toArray, List.set_cons_zero, List.set_cons_succ]
    refine wpAnyH_take (i := 5) (v := undef) rfl (by kernel_rfl) (by kernel_rfl) (by kernel_rfl) (fun _ _ _ h => h) (Or.inr ⟨by rfl, rfl⟩) (by assumption) ?_
    try simp only [List.getElem_toArray, List.getElem_cons_succ, List.getElem_cons_zero, Act.put, List.setIfInBounds_toArray, List.set_cons_zero, List.set_cons_succ]
    refine wpAnyH_take (i := 6) (v := undef) rfl (by kernel_rfl) (by kernel_rfl) (by kernel_rfl) (fun _ _ _ h => h) (Or.inr ⟨by rfl, rfl⟩) (by assumption) ?_
    try simp only [List.getElem_toArray, List.getElem_cons_succ, List.getElem_cons_zero, Act.put, List.setIfInBounds_toArray, List.set_cons_zero, List.set_cons_succ]
    refine wpAnyH_take (i := 7) (v := undef) rfl (by kernel_rfl) (by kernel_rfl) (by kernel_rfl) (fun _ _ _ h => h) (Or.inr ⟨by rfl, rfl⟩) (by assumption) ?_
    try simp only [List.getElem_toArray, List.getElem_cons_succ, List.getElem_cons_zero, Act.put, List.setIfInBounds_toArray, List.set_cons_zero, List.set_cons_succ]
    refine wpAnyH_take (i := 8) (v := undef) rfl (by kernel_rfl) (by kernel_rfl) (by kernel_rfl) (fun _ _ _ h => h) (Or.inr ⟨by rfl, rfl⟩) (by assumption) ?_
    try simp only [List.getElem_toArray, List.getElem_cons_succ, List.getElem_cons_zero, Act.put, List.setIfInBounds_toArray, List.set_cons_zero, List.set_cons_succ]
    refine wpAnyH_take (i := 9) (v := ?_) rfl (by kernel_rfl) (by kernel_rfl) (by kernel_rfl) (fun _ _ _ h => h) (Or.inl ⟨by rfl, ?_⟩) (by assumption) ?_
    rotate_left
    · (intro w hSw; (try dsimp only at hSw); go_simp; try with_reducible rfl)
    try simp only [List.getElem_toArray, List.getElem_cons_succ, List.getElem_cons_zero, Act.put, List.setIfInBounds_toArray, List.set_cons_zero, List.set_cons_succ]
    refine wpAnyH_done (by kernel_rfl) ?_ _
    all_goals
      go_wp2_with fail
      go_ret
      exact ⟨rfl, HC.out⟩
set_option maxRecDepth 100000 in
set_option maxHeartbeats 12800000 in
theorem ap_unplain (v : Value) (l : List UInt8) (w : World) (hv : Rd w [] v (ints .u8 (byts l))) (hl : l.length ≤ 40) (b : Nat) (h416 : l.length = 4 ∨ l.length = 16) (hr : rightV l b = true) (hp : ¬ plainV l b = l) (htab : Tab w) : Calls Tryd.prog 4 #[.agg #[v, .int .i64 b]] w (TrueS w) := by
  have HO := hide ((Only.refl [] w).alloc (.cells #[v, .int .i64 b] 30))
  have HV := hide (hv.only HO.out (by simp))
  have HBX := hide (Blk.new w 30 #[v, .int .i64 b])
  have HT := hide (htab.only HO.out (by simp))
  have HC := HO
  obtain ⟨A, cap, rfl, hcp, hcm⟩ := hv.formb
  have hl2 : ¬ (40 : Int) < (l.length : Int) := by omega
  have e4 : l.length = 4 → ((l.length : Int) != 4) = false := fun h => by rw [h]; rfl
  have e16 : l.length = 16 → ((l.length : Int) != 4) = true ∧ ((l.length : Int) != 16) = false := fun h => by rw [h]; exact ⟨rfl, rfl⟩
  obtain ⟨X, hX⟩ : ∃ X : ByteArray, X = ⟨(printV l).toArray⟩ := ⟨_, rfl⟩
  have hxl := printV_len (l := l)
  have hxs : X.size ≤ 84 := by rw [hX]; simpa [ByteArray.size] using hxl
  have HPR := hide (fun W (h : Rd W [] (.slice A l.length cap) (ints .u8 (byts l))) (hw : Tab W) => Print_addr _ l _ W h h416 hw)
  have HRP := hide (fun W (h : Rd W [] (.slice A l.length cap) (ints .u8 (byts l))) => refPrint_addr _ l _ W h h416)
  have HRD := hide (fun W => Read_addr W X (by omega))
  rw [hX, readA_print h416, ← hX] at HRD
  unfold TxtPost at HPR
  unfold StrPost at HRP
  unfold BytsPost at HRD
  rw [← hX] at HPR HRP
  simp only at HRD
  have hXX : (X.toList == X.toList) = true := by rw [beq_iff_eq]
  have hXX2 : (X.toList != X.toList) = false := by rw [bne_eq_false_iff_eq]
  have HU8 := hide (show b ≤ 8 * l.length by obtain ⟨n, h1, h2, _⟩ := right_nat2 hr; omega)
  have HU1 := hide (show l.length ≤ 1000 by omega)
  have HPP := hide (fun W (h : Rd W [] (.slice A l.length cap) (ints .u8 (byts l))) => pp_no _ l (b : Int) _ W h (by unfold isPlain; exact isplain_no hr hp))
  have FR := hide (show rightN l.length (b : Int) = true from hr)
  have HNE := hide hp
  clear hp
  clear hX hr hxl
  clear hv htab
  go_enter Tryd.func4, Tryd.ntmps4
  rcases h416 with h4 | h16
  · have e1 := e4 h4
    clear e4 e16 h4
    go_upto_region 12 with (first
      | (go_at_call 5; refine (awake04 _ HT.out).mono ?_; rintro e w1 ⟨rfl, ho⟩; (first | (have ho := undrew ho) | skip); have HC := hide (HC.out.trans ho); have HT := hide (HT.out.only ho (by simp)); have HV := hide (HV.out.only ho (by simp)); have HBX := hide (HBX.out.only ho (by simp)); have c0 := HBX.out.cell 0; have c1 := HBX.out.cell 1; simp at c0 c1; clear ho)
      | (go_at_call 12; with_reducible refine (HPR.out _ HV.out HT.out).mono ?_; rintro e w2 ⟨rfl, ho⟩; (first | (have ho := undrew ho) | skip); have HC := hide (HC.out.trans ho); have HT := hide (HT.out.only ho (by simp)); have HV := hide (HV.out.only ho (by simp)); have HBX := hide (HBX.out.only ho (by simp)); have c0 := HBX.out.cell 0; have c1 := HBX.out.cell 1; simp at c0 c1; clear ho)
      | (go_at_call 13; with_reducible refine (HPP.out _ HV.out).mono ?_; rintro e w3 ⟨rfl, ho⟩; (first | (have ho := undrew ho) | skip); have HC := hide (HC.out.trans ho); have HT := hide (HT.out.only ho (by simp)); have HV := hide (HV.out.only ho (by simp)); have HBX := hide (HBX.out.only ho (by simp)); have c0 := HBX.out.cell 0; have c1 := HBX.out.cell 1; simp at c0 c1; clear ho)
      | (go_at_call 6; with_reducible refine (HRD.out _).mono ?_; rintro e w4 ⟨v2, rfl, ho, hr2⟩; have HV2 := hide (hr2 [] (by simp)); obtain ⟨A2, cap2, rfl, _, _⟩ := HV2.out.formb; (first | (have ho := undrew ho) | skip); have HC := hide (HC.out.trans ho); have HT := hide (HT.out.only ho (by simp)); have HV := hide (HV.out.only ho (by simp)); have HBX := hide (HBX.out.only ho (by simp)); have c0 := HBX.out.cell 0; have c1 := HBX.out.cell 1; simp at c0 c1; clear ho; clear hr2)
      | (go_at_call 14; with_reducible refine (HRP.out _ HV.out).mono ?_; rintro e w5 ⟨rfl, ho⟩; have HV2 := hide (HV2.out.only ho (by simp)); (first | (have ho := undrew ho) | skip); have HC := hide (HC.out.trans ho); have HT := hide (HT.out.only ho (by simp)); have HV := hide (HV.out.only ho (by simp)); have HBX := hide (HBX.out.only ho (by simp)); have c0 := HBX.out.cell 0; have c1 := HBX.out.cell 1; simp at c0 c1; clear ho)
      | (go_at_call 10; refine (same_yes _ _ l _ _ _ HV2.out HV.out).mono ?_; rintro e w6 ⟨rfl, rfl⟩))
    obtain ⟨Q, hQ⟩ : ∃ Q, Q = w.heap.size := ⟨_, rfl⟩
    rw [← hQ] at HBX c0 c1 ⊢
    clear hQ
    refine wp_region_held_drew (S := (fun w' => w'.cell? ⟨Q, 0, none⟩ = some (.slice A l.length cap) ∧ w'.cell? ⟨Q, 1, none⟩ = some (.int .i64 b))) (by kernel_rfl) (by exact ⟨c0, c1⟩) (fun hHeld => ?_)
    refine wpAnyH_take (i := 0) (v := ?_) rfl (by kernel_rfl) (by kernel_rfl) (by kernel_rfl) (fun _ _ _ h => h) (Or.inl ⟨by rfl, ?_⟩) (by assumption) ?_
    rotate_left
    · (intro w hSw; (try dsimp only at hSw); go_simp; try with_reducible rfl)
    try simp only [List.getElem_toArray, List.getElem_cons_succ, List.getElem_cons_zero, Act.put, List.setIfInBounds_toArray, List.set_cons_zero, List.set_cons_succ]
    refine wpAnyH_ready (rs := [1]) (by kernel_rfl) (by simp) ?_
    refine AllReadyH.cons rfl (fun K hK => ?_) AllReadyH.nil
    go_simp
    go_at_call 15; refine (refright_any _ _ _ _ true FR.out _).mono ?_; rintro e w9 ⟨rfl, ho⟩; (first | (have ho := undrew ho) | skip); have HC := hide (HC.out.trans ho); have HT := hide (HT.out.only ho (by simp)); have HV := hide (HV.out.only ho (by simp)); have HBX := hide (HBX.out.only ho (by simp)); have c0 := HBX.out.cell 0; have c1 := HBX.out.cell 1; simp at c0 c1; (first | (have HRS := hide (HRS.out.only ho (by simp))) | skip); clear ho
    refine hK.out _ _ (by exact ⟨c0, c1⟩) (fun hHeld => ?_)
    clear hK K
    try simp only [List.getElem_toArray, List.getElem_cons_succ, List.getElem_cons_zero, Act.put, List.setIfInBounds_toArray, List.set_cons_zero, List.set_cons_succ]
    refine wpAnyH_take (i := 2) (v := ?_) rfl (by kernel_rfl) (by kernel_rfl) (by kernel_rfl) (fun _ _ _ h => h) (Or.inl ⟨by rfl, ?_⟩) (by assumption) ?_
    rotate_left
    · (intro w hSw; (try dsimp only at hSw); go_simp; try with_reducible rfl)
    try simp only [List.getElem_toArray, List.getElem_cons_succ, List.getElem_cons_zero, Act.put, List.setIfInBounds_toArray, List.set_cons_zero, List.set_cons_succ]
    refine wpAnyH_take (i := 3) (v := ?_) rfl (by kernel_rfl) (by kernel_rfl) (by kernel_rfl) (fun _ _ _ h => h) (Or.inl ⟨by rfl, ?_⟩) (by assumption) ?_
    rotate_left
    · (intro w hSw; (try dsimp only at hSw); go_simp; try with_reducible rfl)
    try simp only [List.getElem_toArray, List.getElem_cons_succ, List.getElem_cons_zero, Act.put, List.setIfInBounds_toArray, List.set_cons_zero, List.set_cons_succ]
    refine wpAnyH_take (i := 4) (v := ?_) rfl (by kernel_rfl) (by kernel_rfl) (by kernel_rfl) (fun _ _ _ h => h) (Or.inl ⟨by rfl, ?_⟩) (by assumption) ?_
    rotate_left
    · (intro w hSw; (try dsimp only at hSw); go_simp; try with_reducible rfl)
    try simp only [List.getElem_toArray, List.getElem_cons_succ, List.getElem_cons_zero, Act.put, List.setIfInBounds_toArray, List.set_cons_zero, List.set_cons_succ]
    refine wpAnyH_take (i := 6) (v := ?_) rfl (by kernel_rfl) (by kernel_rfl) (by kernel_rfl) (fun _ _ _ h => h) (Or.inl ⟨by rfl, ?_⟩) (by assumption) ?_
    rotate_left
    · (intro w hSw; (try dsimp only at hSw); go_simp; try with_reducible rfl)
    try simp only [List.getElem_toArray, List.getElem_cons_succ, List.getElem_cons_zero, Act.put, List.setIfInBounds_toArray, List.set_cons_zero, List.set_cons_succ]
    refine wpAnyH_ready (rs := [5]) (by kernel_rfl) (by simp) ?_
    refine AllReadyH.cons rfl (fun K hK => ?_) AllReadyH.nil
    go_simp
    go_at_call 16; refine (refplain_any _ l b _ _ (HV.out.only (by first | with_reducible exact Only.refl [] _ | exact (Only.refl [] _).drew) (by simp)) HU8.out HU1.out).mono ?_; rintro e w9 ⟨v3, rfl, hr3, ho⟩; (first | (have ho := undrew ho) | skip); have HC := hide (HC.out.trans ho); have HT := hide (HT.out.only ho (by simp)); have HV := hide (HV.out.only ho (by simp)); have HBX := hide (HBX.out.only ho (by simp)); have c0 := HBX.out.cell 0; have c1 := HBX.out.cell 1; simp at c0 c1; (first | (have HRS := hide (HRS.out.only ho (by simp))) | skip); clear ho; have HRS := hide hr3; obtain ⟨A3, c3, rfl, _, _⟩ := hr3.formb; clear hr3
    refine hK.out _ _ (by exact ⟨c0, c1⟩) (fun hHeld => ?_)
    clear hK K
    try simp only [List.getElem_toArray, List.getElem_cons_succ, List.getElem_cons_zero, Act.put, List.setIfInBounds_toArray, List.set_cons_zero, List.set_cons_succ]
    refine wpAnyH_ready (rs := [7]) (by kernel_rfl) (by simp) ?_
    refine AllReadyH.cons rfl (fun K hK => ?_) AllReadyH.nil
    go_simp
    go_at_call 11; refine (refsame_no _ _ (plainV l b) l b _ _ _ HNE.out HRS.out HV.out).mono ?_; rintro e w9 ⟨rfl, ho⟩; (first | (have ho := undrew ho) | skip); have HC := hide (HC.out.trans ho); have HT := hide (HT.out.only ho (by simp)); have HV := hide (HV.out.only ho (by simp)); have HBX := hide (HBX.out.only ho (by simp)); have c0 := HBX.out.cell 0; have c1 := HBX.out.cell 1; simp at c0 c1; (first | (have HRS := hide (HRS.out.only ho (by simp))) | skip); clear ho
    refine hK.out _ _ (by exact ⟨c0, c1⟩) (fun hHeld => ?_)
    clear hK K
    try simp only [List.getElem_toArray, List.getElem_cons_succ, List.getElem_cons_zero, Act.put, List.setIfInBounds_toArray, List.set_cons_zero, List.set_cons_succ]
    refine wpAnyH_take (i := 8) (v := ?_) rfl (by kernel_rfl) (by kernel_rfl) (by kernel_rfl) (fun _ _ _ h => h) (Or.inl ⟨by rfl, ?_⟩) (by assumption) ?_
    rotate_left
    · (intro w hSw; (try dsimp only at hSw); go_simp; try with_reducible rfl)
    try simp only [List.getElem_toArray, List.getElem_cons_succ, List.getElem_cons_zero, Act.put, List.setIfInBounds_toArray, List.set_cons_zero, List.set_cons_succ]
    refine wpAnyH_take (i := 9) (v := ?_) rfl (by kernel_rfl) (by kernel_rfl) (by kernel_rfl) (fun _ _ _ h => h) (Or.inl ⟨by rfl, ?_⟩) (by assumption) ?_
    rotate_left
    · (intro w hSw; (try dsimp only at hSw); go_simp; try with_reducible rfl)
    try simp only [List.getElem_toArray, List.getElem_cons_succ, List.getElem_cons_zero, Act.put, List.setIfInBounds_toArray, List.set_cons_zero, List.set_cons_succ]
    refine wpAnyH_done (by kernel_rfl) ?_ _
    all_goals
      go_wp2_with fail
      go_ret
      exact ⟨rfl, HC.out⟩
  · obtain ⟨e1, e2⟩ := e16 h16
    clear e4 e16 h16
    go_upto_region 12 with (first
      | (go_at_call 5; refine (awake04 _ HT.out).mono ?_; rintro e w1 ⟨rfl, ho⟩; (first | (have ho := undrew ho) | skip); have HC := hide (HC.out.trans ho); have HT := hide (HT.out.only ho (by simp)); have HV := hide (HV.out.only ho (by simp)); have HBX := hide (HBX.out.only ho (by simp)); have c0 := HBX.out.cell 0; have c1 := HBX.out.cell 1; simp at c0 c1; clear ho)
      | (go_at_call 12; with_reducible refine (HPR.out _ HV.out HT.out).mono ?_; rintro e w2 ⟨rfl, ho⟩; (first | (have ho := undrew ho) | skip); have HC := hide (HC.out.trans ho); have HT := hide (HT.out.only ho (by simp)); have HV := hide (HV.out.only ho (by simp)); have HBX := hide (HBX.out.only ho (by simp)); have c0 := HBX.out.cell 0; have c1 := HBX.out.cell 1; simp at c0 c1; clear ho)
      | (go_at_call 13; with_reducible refine (HPP.out _ HV.out).mono ?_; rintro e w3 ⟨rfl, ho⟩; (first | (have ho := undrew ho) | skip); have HC := hide (HC.out.trans ho); have HT := hide (HT.out.only ho (by simp)); have HV := hide (HV.out.only ho (by simp)); have HBX := hide (HBX.out.only ho (by simp)); have c0 := HBX.out.cell 0; have c1 := HBX.out.cell 1; simp at c0 c1; clear ho)
      | (go_at_call 6; with_reducible refine (HRD.out _).mono ?_; rintro e w4 ⟨v2, rfl, ho, hr2⟩; have HV2 := hide (hr2 [] (by simp)); obtain ⟨A2, cap2, rfl, _, _⟩ := HV2.out.formb; (first | (have ho := undrew ho) | skip); have HC := hide (HC.out.trans ho); have HT := hide (HT.out.only ho (by simp)); have HV := hide (HV.out.only ho (by simp)); have HBX := hide (HBX.out.only ho (by simp)); have c0 := HBX.out.cell 0; have c1 := HBX.out.cell 1; simp at c0 c1; clear ho; clear hr2)
      | (go_at_call 14; with_reducible refine (HRP.out _ HV.out).mono ?_; rintro e w5 ⟨rfl, ho⟩; have HV2 := hide (HV2.out.only ho (by simp)); (first | (have ho := undrew ho) | skip); have HC := hide (HC.out.trans ho); have HT := hide (HT.out.only ho (by simp)); have HV := hide (HV.out.only ho (by simp)); have HBX := hide (HBX.out.only ho (by simp)); have c0 := HBX.out.cell 0; have c1 := HBX.out.cell 1; simp at c0 c1; clear ho)
      | (go_at_call 10; refine (same_yes _ _ l _ _ _ HV2.out HV.out).mono ?_; rintro e w6 ⟨rfl, rfl⟩))
    obtain ⟨Q, hQ⟩ : ∃ Q, Q = w.heap.size := ⟨_, rfl⟩
    rw [← hQ] at HBX c0 c1 ⊢
    clear hQ
    refine wp_region_held_drew (S := (fun w' => w'.cell? ⟨Q, 0, none⟩ = some (.slice A l.length cap) ∧ w'.cell? ⟨Q, 1, none⟩ = some (.int .i64 b))) (by kernel_rfl) (by exact ⟨c0, c1⟩) (fun hHeld => ?_)
    refine wpAnyH_take (i := 0) (v := ?_) rfl (by kernel_rfl) (by kernel_rfl) (by kernel_rfl) (fun _ _ _ h => h) (Or.inl ⟨by rfl, ?_⟩) (by assumption) ?_
    rotate_left
    · (intro w hSw; (try dsimp only at hSw); go_simp; try with_reducible rfl)
    try simp only [List.getElem_toArray, List.getElem_cons_succ, List.getElem_cons_zero, Act.put, List.setIfInBounds_toArray, List.set_cons_zero, List.set_cons_succ]
    refine wpAnyH_ready (rs := [1]) (by kernel_rfl) (by simp) ?_
    refine AllReadyH.cons rfl (fun K hK => ?_) AllReadyH.nil
    go_simp
    go_at_call 15; refine (refright_any _ _ _ _ true FR.out _).mono ?_; rintro e w9 ⟨rfl, ho⟩; (first | (have ho := undrew ho) | skip); have HC := hide (HC.out.trans ho); have HT := hide (HT.out.only ho (by simp)); have HV := hide (HV.out.only ho (by simp)); have HBX := hide (HBX.out.only ho (by simp)); have c0 := HBX.out.cell 0; have c1 := HBX.out.cell 1; simp at c0 c1; (first | (have HRS := hide (HRS.out.only ho (by simp))) | skip); clear ho
    refine hK.out _ _ (by exact ⟨c0, c1⟩) (fun hHeld => ?_)
    clear hK K
    try simp only [List.getElem_toArray, List.getElem_cons_succ, List.getElem_cons_zero, Act.put, List.setIfInBounds_toArray, List.set_cons_zero, List.set_cons_succ]
    refine wpAnyH_take (i := 2) (v := ?_) rfl (by kernel_rfl) (by kernel_rfl) (by kernel_rfl) (fun _ _ _ h => h) (Or.inl ⟨by rfl, ?_⟩) (by assumption) ?_
    rotate_left
    · (intro w hSw; (try dsimp only at hSw); go_simp; try with_reducible rfl)
    try simp only [List.getElem_toArray, List.getElem_cons_succ, List.getElem_cons_zero, Act.put, List.setIfInBounds_toArray, List.set_cons_zero, List.set_cons_succ]
    refine wpAnyH_take (i := 3) (v := ?_) rfl (by kernel_rfl) (by kernel_rfl) (by kernel_rfl) (fun _ _ _ h => h) (Or.inl ⟨by rfl, ?_⟩) (by assumption) ?_
    rotate_left
    · (intro w hSw; (try dsimp only at hSw); go_simp; try with_reducible rfl)
    try simp only [List.getElem_toArray, List.getElem_cons_succ, List.getElem_cons_zero, Act.put, List.setIfInBounds_toArray, List.set_cons_zero, List.set_cons_succ]
    refine wpAnyH_take (i := 4) (v := ?_) rfl (by kernel_rfl) (by kernel_rfl) (by kernel_rfl) (fun _ _ _ h => h) (Or.inl ⟨by rfl, ?_⟩) (by assumption) ?_
    rotate_left
    · (intro w hSw; (try dsimp only at hSw); go_simp; try with_reducible rfl)
    try simp only [List.getElem_toArray, List.getElem_cons_succ, List.getElem_cons_zero, Act.put, List.setIfInBounds_toArray, List.set_cons_zero, List.set_cons_succ]
    refine wpAnyH_take (i := 6) (v := ?_) rfl (by kernel_rfl) (by kernel_rfl) (by kernel_rfl) (fun _ _ _ h => h) (Or.inl ⟨by rfl, ?_⟩) (by assumption) ?_
    rotate_left
    · (intro w hSw; (try dsimp only at hSw); go_simp; try with_reducible rfl)
    try simp only [List.getElem_toArray, List.getElem_cons_succ, List.getElem_cons_zero, Act.put, List.setIfInBounds_toArray, List.set_cons_zero, List.set_cons_succ]
    refine wpAnyH_ready (rs := [5]) (by kernel_rfl) (by simp) ?_
    refine AllReadyH.cons rfl (fun K hK => ?_) AllReadyH.nil
    go_simp
    go_at_call 16; refine (refplain_any _ l b _ _ (HV.out.only (by first | with_reducible exact Only.refl [] _ | exact (Only.refl [] _).drew) (by simp)) HU8.out HU1.out).mono ?_; rintro e w9 ⟨v3, rfl, hr3, ho⟩; (first | (have ho := undrew ho) | skip); have HC := hide (HC.out.trans ho); have HT := hide (HT.out.only ho (by simp)); have HV := hide (HV.out.only ho (by simp)); have HBX := hide (HBX.out.only ho (by simp)); have c0 := HBX.out.cell 0; have c1 := HBX.out.cell 1; simp at c0 c1; (first | (have HRS := hide (HRS.out.only ho (by simp))) | skip); clear ho; have HRS := hide hr3; obtain ⟨A3, c3, rfl, _, _⟩ := hr3.formb; clear hr3
    refine hK.out _ _ (by exact ⟨c0, c1⟩) (fun hHeld => ?_)
    clear hK K
    try simp only [List.getElem_toArray, List.getElem_cons_succ, List.getElem_cons_zero, Act.put, List.setIfInBounds_toArray, List.set_cons_zero, List.set_cons_succ]
    refine wpAnyH_ready (rs := [7]) (by kernel_rfl) (by simp) ?_
    refine AllReadyH.cons rfl (fun K hK => ?_) AllReadyH.nil
    go_simp
    go_at_call 11; refine (refsame_no _ _ (plainV l b) l b _ _ _ HNE.out HRS.out HV.out).mono ?_; rintro e w9 ⟨rfl, ho⟩; (first | (have ho := undrew ho) | skip); have HC := hide (HC.out.trans ho); have HT := hide (HT.out.only ho (by simp)); have HV := hide (HV.out.only ho (by simp)); have HBX := hide (HBX.out.only ho (by simp)); have c0 := HBX.out.cell 0; have c1 := HBX.out.cell 1; simp at c0 c1; (first | (have HRS := hide (HRS.out.only ho (by simp))) | skip); clear ho
    refine hK.out _ _ (by exact ⟨c0, c1⟩) (fun hHeld => ?_)
    clear hK K
    try simp only [List.getElem_toArray, List.getElem_cons_succ, List.getElem_cons_zero, Act.put, List.setIfInBounds_toArray, List.set_cons_zero, List.set_cons_succ]
    refine wpAnyH_take (i := 8) (v := ?_) rfl (by kernel_rfl) (by kernel_rfl) (by kernel_rfl) (fun _ _ _ h => h) (Or.inl ⟨by rfl, ?_⟩) (by assumption) ?_
    rotate_left
    · (intro w hSw; (try dsimp only at hSw); go_simp; try with_reducible rfl)
    try simp only [List.getElem_toArray, List.getElem_cons_succ, List.getElem_cons_zero, Act.put, List.setIfInBounds_toArray, List.set_cons_zero, List.set_cons_succ]
    refine wpAnyH_take (i := 9) (v := ?_) rfl (by kernel_rfl) (by kernel_rfl) (by kernel_rfl) (fun _ _ _ h => h) (Or.inl ⟨by rfl, ?_⟩) (by assumption) ?_
    rotate_left
    · (intro w hSw; (try dsimp only at hSw); go_simp; try with_reducible rfl)
    try simp only [List.getElem_toArray, List.getElem_cons_succ, List.getElem_cons_zero, Act.put, List.setIfInBounds_toArray, List.set_cons_zero, List.set_cons_succ]
    refine wpAnyH_done (by kernel_rfl) ?_ _
    all_goals
      go_wp2_with fail
      go_ret
      exact ⟨rfl, HC.out⟩
set_option maxRecDepth 100000 in
set_option maxHeartbeats 12800000 in
theorem ap_plain (v : Value) (l : List UInt8) (w : World) (hv : Rd w [] v (ints .u8 (byts l))) (hl : l.length ≤ 40) (b : Nat) (hp : isPlain l b = true) (htab : Tab w) : Calls Tryd.prog 4 #[.agg #[v, .int .i64 b]] w (TrueS w) := by
  have HO := hide ((Only.refl [] w).alloc (.cells #[v, .int .i64 b] 30))
  have HV := hide (hv.only HO.out (by simp))
  have HBX := hide (Blk.new w 30 #[v, .int .i64 b])
  have HT := hide (htab.only HO.out (by simp))
  have HC := HO
  obtain ⟨A, cap, rfl, hcp, hcm⟩ := hv.formb
  have hl2 : ¬ (40 : Int) < (l.length : Int) := by omega
  have hr : rightV l b = true := (isPlain_iff.1 hp).1
  have h416 : l.length = 4 ∨ l.length = 16 := by obtain ⟨_, _, _, h⟩ := right_nat2 hr; exact h
  have hpl : plainV l b = l := (isPlain_iff.1 hp).2
  have e4 : l.length = 4 → ((l.length : Int) != 4) = false := fun h => by rw [h]; rfl
  have e16 : l.length = 16 → ((l.length : Int) != 4) = true ∧ ((l.length : Int) != 16) = false := fun h => by rw [h]; exact ⟨rfl, rfl⟩
  obtain ⟨X, hX⟩ : ∃ X : ByteArray, X = ⟨(printV l).toArray⟩ := ⟨_, rfl⟩
  have hxl := printV_len (l := l)
  have hxs : X.size ≤ 84 := by rw [hX]; simpa [ByteArray.size] using hxl
  have HPR := hide (fun W (h : Rd W [] (.slice A l.length cap) (ints .u8 (byts l))) (hw : Tab W) => Print_addr _ l _ W h h416 hw)
  have HRP := hide (fun W (h : Rd W [] (.slice A l.length cap) (ints .u8 (byts l))) => refPrint_addr _ l _ W h h416)
  have HRD := hide (fun W => Read_addr W X (by omega))
  rw [hX, readA_print h416, ← hX] at HRD
  unfold TxtPost at HPR
  unfold StrPost at HRP
  unfold BytsPost at HRD
  rw [← hX] at HPR HRP
  simp only at HRD
  have hXX : (X.toList == X.toList) = true := by rw [beq_iff_eq]
  have hXX2 : (X.toList != X.toList) = false := by rw [bne_eq_false_iff_eq]
  have HU8 := hide (show b ≤ 8 * l.length by obtain ⟨n, h1, h2, _⟩ := right_nat2 hr; omega)
  have HU1 := hide (show l.length ≤ 1000 by omega)
  have HPLV := hide hpl
  obtain ⟨Y, hY⟩ : ∃ Y : ByteArray, Y = ⟨(printV l ++ ([47] ++ Lib.decDigits b)).toArray⟩ := ⟨_, rfl⟩
  have hb128 : b ≤ 128 := by obtain ⟨n, h1, h2, _⟩ := right_nat2 hr; omega
  have hdl := dec_len b (by omega)
  have hys : Y.size ≤ 1000000 := by rw [hY]; simp only [ByteArray.size, List.size_toArray, List.length_append, List.length_cons, List.length_nil]; omega
  have HPP := hide (fun W (h : Rd W [] (.slice A l.length cap) (ints .u8 (byts l))) (hw : Tab W) => pp_yes _ l b _ W h hp hw)
  have HRPP := hide (fun W (h : Rd W [] (.slice A l.length cap) (ints .u8 (byts l))) => refpp_any _ l b _ W h h416 hb128)
  have HRDP := hide (fun W => ReadPrefix_any W Y hys)
  rw [hY, refP_print hp, ← hY] at HRDP
  unfold TxtPost at HPP
  unfold StrPost at HRPP
  unfold PPost at HRDP
  simp only at HRDP
  unfold PfxPost at HRDP
  rw [← hY] at HPP HRPP
  have hYY : (Y.toList == Y.toList) = true := by rw [beq_iff_eq]
  clear hY hp hpl hdl hb128
  have FR := hide (show rightN l.length (b : Int) = true from hr)
  clear hX hr hxl
  clear hv htab
  go_enter Tryd.func4, Tryd.ntmps4
  rcases h416 with h4 | h16
  · have e1 := e4 h4
    clear e4 e16 h4
    go_upto_region 12 with (first
      | (go_at_call 5; refine (awake04 _ HT.out).mono ?_; rintro e w1 ⟨rfl, ho⟩; (first | (have ho := undrew ho) | skip); have HC := hide (HC.out.trans ho); have HT := hide (HT.out.only ho (by simp)); have HV := hide (HV.out.only ho (by simp)); have HBX := hide (HBX.out.only ho (by simp)); have c0 := HBX.out.cell 0; have c1 := HBX.out.cell 1; simp at c0 c1; clear ho)
      | (go_at_call 12; with_reducible refine (HPR.out _ HV.out HT.out).mono ?_; rintro e w2 ⟨rfl, ho⟩; (first | (have ho := undrew ho) | skip); have HC := hide (HC.out.trans ho); have HT := hide (HT.out.only ho (by simp)); have HV := hide (HV.out.only ho (by simp)); have HBX := hide (HBX.out.only ho (by simp)); have c0 := HBX.out.cell 0; have c1 := HBX.out.cell 1; simp at c0 c1; clear ho)
      | (go_at_call 13; with_reducible refine (HPP.out _ HV.out HT.out).mono ?_; rintro e w3 ⟨rfl, ho⟩; (first | (have ho := undrew ho) | skip); have HC := hide (HC.out.trans ho); have HT := hide (HT.out.only ho (by simp)); have HV := hide (HV.out.only ho (by simp)); have HBX := hide (HBX.out.only ho (by simp)); have c0 := HBX.out.cell 0; have c1 := HBX.out.cell 1; simp at c0 c1; clear ho)
      | (go_at_call 6; with_reducible refine (HRD.out _).mono ?_; rintro e w4 ⟨v2, rfl, ho, hr2⟩; have HV2 := hide (hr2 [] (by simp)); obtain ⟨A2, cap2, rfl, _, _⟩ := HV2.out.formb; (first | (have ho := undrew ho) | skip); have HC := hide (HC.out.trans ho); have HT := hide (HT.out.only ho (by simp)); have HV := hide (HV.out.only ho (by simp)); have HBX := hide (HBX.out.only ho (by simp)); have c0 := HBX.out.cell 0; have c1 := HBX.out.cell 1; simp at c0 c1; clear ho; clear hr2)
      | (go_at_call 14; with_reducible refine (HRP.out _ HV.out).mono ?_; rintro e w5 ⟨rfl, ho⟩; have HV2 := hide (HV2.out.only ho (by simp)); (first | (have ho := undrew ho) | skip); have HC := hide (HC.out.trans ho); have HT := hide (HT.out.only ho (by simp)); have HV := hide (HV.out.only ho (by simp)); have HBX := hide (HBX.out.only ho (by simp)); have c0 := HBX.out.cell 0; have c1 := HBX.out.cell 1; simp at c0 c1; clear ho)
      | (go_at_call 10; refine (same_yes _ _ l _ _ _ HV2.out HV.out).mono ?_; rintro e w6 ⟨rfl, rfl⟩))
    obtain ⟨Q, hQ⟩ : ∃ Q, Q = w.heap.size := ⟨_, rfl⟩
    rw [← hQ] at HBX c0 c1 ⊢
    clear hQ
    refine wp_region_held_drew (S := (fun w' => w'.cell? ⟨Q, 0, none⟩ = some (.slice A l.length cap) ∧ w'.cell? ⟨Q, 1, none⟩ = some (.int .i64 b))) (by kernel_rfl) (by exact ⟨c0, c1⟩) (fun hHeld => ?_)
    refine wpAnyH_take (i := 0) (v := ?_) rfl (by kernel_rfl) (by kernel_rfl) (by kernel_rfl) (fun _ _ _ h => h) (Or.inl ⟨by rfl, ?_⟩) (by assumption) ?_
    rotate_left
    · (intro w hSw; (try dsimp only at hSw); go_simp; try with_reducible rfl)
    try simp only [List.getElem_toArray, List.getElem_cons_succ, List.getElem_cons_zero, Act.put, List.setIfInBounds_toArray, List.set_cons_zero, List.set_cons_succ]
    refine wpAnyH_ready (rs := [1]) (by kernel_rfl) (by simp) ?_
    refine AllReadyH.cons rfl (fun K hK => ?_) AllReadyH.nil
    go_simp
    go_at_call 15; refine (refright_any _ _ _ _ true FR.out _).mono ?_; rintro e w9 ⟨rfl, ho⟩; (first | (have ho := undrew ho) | skip); have HC := hide (HC.out.trans ho); have HT := hide (HT.out.only ho (by simp)); have HV := hide (HV.out.only ho (by simp)); have HBX := hide (HBX.out.only ho (by simp)); have c0 := HBX.out.cell 0; have c1 := HBX.out.cell 1; simp at c0 c1; (first | (have HRS := hide (HRS.out.only ho (by simp))) | skip); clear ho
    refine hK.out _ _ (by exact ⟨c0, c1⟩) (fun hHeld => ?_)
    clear hK K
    try simp only [List.getElem_toArray, List.getElem_cons_succ, List.getElem_cons_zero, Act.put, List.setIfInBounds_toArray, List.set_cons_zero, List.set_cons_succ]
    refine wpAnyH_take (i := 2) (v := ?_) rfl (by kernel_rfl) (by kernel_rfl) (by kernel_rfl) (fun _ _ _ h => h) (Or.inl ⟨by rfl, ?_⟩) (by assumption) ?_
    rotate_left
    · (intro w hSw; (try dsimp only at hSw); go_simp; try with_reducible rfl)
    try simp only [List.getElem_toArray, List.getElem_cons_succ, List.getElem_cons_zero, Act.put, List.setIfInBounds_toArray, List.set_cons_zero, List.set_cons_succ]
    refine wpAnyH_take (i := 3) (v := ?_) rfl (by kernel_rfl) (by kernel_rfl) (by kernel_rfl) (fun _ _ _ h => h) (Or.inl ⟨by rfl, ?_⟩) (by assumption) ?_
    rotate_left
    · (intro w hSw; (try dsimp only at hSw); go_simp; try with_reducible rfl)
    try simp only [List.getElem_toArray, List.getElem_cons_succ, List.getElem_cons_zero, Act.put, List.setIfInBounds_toArray, List.set_cons_zero, List.set_cons_succ]
    refine wpAnyH_take (i := 4) (v := ?_) rfl (by kernel_rfl) (by kernel_rfl) (by kernel_rfl) (fun _ _ _ h => h) (Or.inl ⟨by rfl, ?_⟩) (by assumption) ?_
    rotate_left
    · (intro w hSw; (try dsimp only at hSw); go_simp; try with_reducible rfl)
    try simp only [List.getElem_toArray, List.getElem_cons_succ, List.getElem_cons_zero, Act.put, List.setIfInBounds_toArray, List.set_cons_zero, List.set_cons_succ]
    refine wpAnyH_take (i := 6) (v := ?_) rfl (by kernel_rfl) (by kernel_rfl) (by kernel_rfl) (fun _ _ _ h => h) (Or.inl ⟨by rfl, ?_⟩) (by assumption) ?_
    rotate_left
    · (intro w hSw; (try dsimp only at hSw); go_simp; try with_reducible rfl)
    try simp only [List.getElem_toArray, List.getElem_cons_succ, List.getElem_cons_zero, Act.put, List.setIfInBounds_toArray, List.set_cons_zero, List.set_cons_succ]
    refine wpAnyH_ready (rs := [5]) (by kernel_rfl) (by simp) ?_
    refine AllReadyH.cons rfl (fun K hK => ?_) AllReadyH.nil
    go_simp
    go_at_call 16; refine (refplain_any _ l b _ _ (HV.out.only (by first | with_reducible exact Only.refl [] _ | exact (Only.refl [] _).drew) (by simp)) HU8.out HU1.out).mono ?_; rintro e w9 ⟨v3, rfl, hr3, ho⟩; (first | (have ho := undrew ho) | skip); have HC := hide (HC.out.trans ho); have HT := hide (HT.out.only ho (by simp)); have HV := hide (HV.out.only ho (by simp)); have HBX := hide (HBX.out.only ho (by simp)); have c0 := HBX.out.cell 0; have c1 := HBX.out.cell 1; simp at c0 c1; (first | (have HRS := hide (HRS.out.only ho (by simp))) | skip); clear ho; have HRS := hide hr3; obtain ⟨A3, c3, rfl, _, _⟩ := hr3.formb; clear hr3
    refine hK.out _ _ (by exact ⟨c0, c1⟩) (fun hHeld => ?_)
    clear hK K
    try simp only [List.getElem_toArray, List.getElem_cons_succ, List.getElem_cons_zero, Act.put, List.setIfInBounds_toArray, List.set_cons_zero, List.set_cons_succ]
    refine wpAnyH_ready (rs := [7]) (by kernel_rfl) (by simp) ?_
    refine AllReadyH.cons rfl (fun K hK => ?_) AllReadyH.nil
    go_simp
    go_at_call 11; refine (refsame_yes _ _ (plainV l b) l b _ _ _ HPLV.out HRS.out HV.out).mono ?_; rintro e w9 ⟨rfl, ho⟩; (first | (have ho := undrew ho) | skip); have HC := hide (HC.out.trans ho); have HT := hide (HT.out.only ho (by simp)); have HV := hide (HV.out.only ho (by simp)); have HBX := hide (HBX.out.only ho (by simp)); have c0 := HBX.out.cell 0; have c1 := HBX.out.cell 1; simp at c0 c1; (first | (have HRS := hide (HRS.out.only ho (by simp))) | skip); clear ho
    refine hK.out _ _ (by exact ⟨c0, c1⟩) (fun hHeld => ?_)
    clear hK K
    try simp only [List.getElem_toArray, List.getElem_cons_succ, List.getElem_cons_zero, Act.put, List.setIfInBounds_toArray, List.set_cons_zero, List.set_cons_succ]
    refine wpAnyH_take (i := 8) (v := ?_) rfl (by kernel_rfl) (by kernel_rfl) (by kernel_rfl) (fun _ _ _ h => h) (Or.inl ⟨by rfl, ?_⟩) (by assumption) ?_
    rotate_left
    · (intro w hSw; (try dsimp only at hSw); go_simp; try with_reducible rfl)
    try simp only [List.getElem_toArray, List.getElem_cons_succ, List.getElem_cons_zero, Act.put, List.setIfInBounds_toArray, List.set_cons_zero, List.set_cons_succ]
    refine wpAnyH_take (i := 9) (v := ?_) rfl (by kernel_rfl) (by kernel_rfl) (by kernel_rfl) (fun _ _ _ h => h) (Or.inl ⟨by rfl, ?_⟩) (by assumption) ?_
    rotate_left
    · (intro w hSw; (try dsimp only at hSw); go_simp; try with_reducible rfl)
    try simp only [List.getElem_toArray, List.getElem_cons_succ, List.getElem_cons_zero, Act.put, List.setIfInBounds_toArray, List.set_cons_zero, List.set_cons_succ]
    refine wpAnyH_done (by kernel_rfl) ?_ _
    all_goals
      go_upto_region 15 with (first | (go_at_call 8; with_reducible refine (HRDP.out _).mono ?_; rintro e w7 ⟨v7, rfl, hr7, ho⟩; have HV7 := hide (hr7.only ((Only.refl [] w7).alloc (.cells #[v7, .int .i64 b] 30)) (by simp)); have HQ7 := hide (Blk.new w7 30 #[v7, .int .i64 b]); have ho := ho.alloc (.cells #[v7, .int .i64 b] 30); obtain ⟨A7, c7, rfl, _, _⟩ := hr7.formb; (first | (have ho := undrew ho) | skip); have HC := hide (HC.out.trans ho); have HT := hide (HT.out.only ho (by simp)); have HV := hide (HV.out.only ho (by simp)); have HBX := hide (HBX.out.only ho (by simp)); have c0 := HBX.out.cell 0; have c1 := HBX.out.cell 1; simp at c0 c1; clear ho; clear hr7))
      have q0 := HQ7.out.cell 0
      have q1 := HQ7.out.cell 1
      simp at q0 q1
      have c0 := HBX.out.cell 0
      have c1 := HBX.out.cell 1
      simp at c0 c1
      go_wp2_with (first
        | (go_at_call 17; with_reducible refine (HRPP.out _ HV.out).mono ?_; rintro e w8 ⟨rfl, ho⟩; (first | (have ho := undrew ho) | skip); have HC := hide (HC.out.trans ho); have HT := hide (HT.out.only ho (by simp)); have HV := hide (HV.out.only ho (by simp)); have HBX := hide (HBX.out.only ho (by simp)); have c0 := HBX.out.cell 0; have c1 := HBX.out.cell 1; simp at c0 c1; have HV7 := hide (HV7.out.only ho (by simp)); have HQ7 := hide (HQ7.out.only ho (by simp)); have q0 := HQ7.out.cell 0; have q1 := HQ7.out.cell 1; simp at q0 q1; clear ho)
        | (go_at_call 11; refine (refsame_yes _ _ l l (b : Int) _ _ _ rfl HV7.out HV.out).mono ?_; rintro e w9 ⟨rfl, ho⟩; (first | (have ho := undrew ho) | skip); have HC := hide (HC.out.trans ho); have HT := hide (HT.out.only ho (by simp)); have HV := hide (HV.out.only ho (by simp)); have HBX := hide (HBX.out.only ho (by simp)); have c0 := HBX.out.cell 0; have c1 := HBX.out.cell 1; simp at c0 c1; have HV7 := hide (HV7.out.only ho (by simp)); have HQ7 := hide (HQ7.out.only ho (by simp)); have q0 := HQ7.out.cell 0; have q1 := HQ7.out.cell 1; simp at q0 q1; clear ho))
      go_ret
      exact ⟨rfl, HC.out⟩
  · obtain ⟨e1, e2⟩ := e16 h16
    clear e4 e16 h16
    go_upto_region 12 with (first
      | (go_at_call 5; refine (awake04 _ HT.out).mono ?_; rintro e w1 ⟨rfl, ho⟩; (first | (have ho := undrew ho) | skip); have HC := hide (HC.out.trans ho); have HT := hide (HT.out.only ho (by simp)); have HV := hide (HV.out.only ho (by simp)); have HBX := hide (HBX.out.only ho (by simp)); have c0 := HBX.out.cell 0; have c1 := HBX.out.cell 1; simp at c0 c1; clear ho)
      | (go_at_call 12; with_reducible refine (HPR.out _ HV.out HT.out).mono ?_; rintro e w2 ⟨rfl, ho⟩; (first | (have ho := undrew ho) | skip); have HC := hide (HC.out.trans ho); have HT := hide (HT.out.only ho (by simp)); have HV := hide (HV.out.only ho (by simp)); have HBX := hide (HBX.out.only ho (by simp)); have c0 := HBX.out.cell 0; have c1 := HBX.out.cell 1; simp at c0 c1; clear ho)
      | (go_at_call 13; with_reducible refine (HPP.out _ HV.out HT.out).mono ?_; rintro e w3 ⟨rfl, ho⟩; (first | (have ho := undrew ho) | skip); have HC := hide (HC.out.trans ho); have HT := hide (HT.out.only ho (by simp)); have HV := hide (HV.out.only ho (by simp)); have HBX := hide (HBX.out.only ho (by simp)); have c0 := HBX.out.cell 0; have c1 := HBX.out.cell 1; simp at c0 c1; clear ho)
      | (go_at_call 6; with_reducible refine (HRD.out _).mono ?_; rintro e w4 ⟨v2, rfl, ho, hr2⟩; have HV2 := hide (hr2 [] (by simp)); obtain ⟨A2, cap2, rfl, _, _⟩ := HV2.out.formb; (first | (have ho := undrew ho) | skip); have HC := hide (HC.out.trans ho); have HT := hide (HT.out.only ho (by simp)); have HV := hide (HV.out.only ho (by simp)); have HBX := hide (HBX.out.only ho (by simp)); have c0 := HBX.out.cell 0; have c1 := HBX.out.cell 1; simp at c0 c1; clear ho; clear hr2)
      | (go_at_call 14; with_reducible refine (HRP.out _ HV.out).mono ?_; rintro e w5 ⟨rfl, ho⟩; have HV2 := hide (HV2.out.only ho (by simp)); (first | (have ho := undrew ho) | skip); have HC := hide (HC.out.trans ho); have HT := hide (HT.out.only ho (by simp)); have HV := hide (HV.out.only ho (by simp)); have HBX := hide (HBX.out.only ho (by simp)); have c0 := HBX.out.cell 0; have c1 := HBX.out.cell 1; simp at c0 c1; clear ho)
      | (go_at_call 10; refine (same_yes _ _ l _ _ _ HV2.out HV.out).mono ?_; rintro e w6 ⟨rfl, rfl⟩))
    obtain ⟨Q, hQ⟩ : ∃ Q, Q = w.heap.size := ⟨_, rfl⟩
    rw [← hQ] at HBX c0 c1 ⊢
    clear hQ
    refine wp_region_held_drew (S := (fun w' => w'.cell? ⟨Q, 0, none⟩ = some (.slice A l.length cap) ∧ w'.cell? ⟨Q, 1, none⟩ = some (.int .i64 b))) (by kernel_rfl) (by exact ⟨c0, c1⟩) (fun hHeld => ?_)
    refine wpAnyH_take (i := 0) (v := ?_) rfl (by kernel_rfl) (by kernel_rfl) (by kernel_rfl) (fun _ _ _ h => h) (Or.inl ⟨by rfl, ?_⟩) (by assumption) ?_
    rotate_left
    · (intro w hSw; (try dsimp only at hSw); go_simp; try with_reducible rfl)
    try simp only [List.getElem_toArray, List.getElem_cons_succ, List.getElem_cons_zero, Act.put, List.setIfInBounds_toArray, List.set_cons_zero, List.set_cons_succ]
    refine wpAnyH_ready (rs := [1]) (by kernel_rfl) (by simp) ?_
    refine AllReadyH.cons rfl (fun K hK => ?_) AllReadyH.nil
    go_simp
    go_at_call 15; refine (refright_any _ _ _ _ true FR.out _).mono ?_; rintro e w9 ⟨rfl, ho⟩; (first | (have ho := undrew ho) | skip); have HC := hide (HC.out.trans ho); have HT := hide (HT.out.only ho (by simp)); have HV := hide (HV.out.only ho (by simp)); have HBX := hide (HBX.out.only ho (by simp)); have c0 := HBX.out.cell 0; have c1 := HBX.out.cell 1; simp at c0 c1; (first | (have HRS := hide (HRS.out.only ho (by simp))) | skip); clear ho
    refine hK.out _ _ (by exact ⟨c0, c1⟩) (fun hHeld => ?_)
    clear hK K
    try simp only [List.getElem_toArray, List.getElem_cons_succ, List.getElem_cons_zero, Act.put, List.setIfInBounds_toArray, List.set_cons_zero, List.set_cons_succ]
    refine wpAnyH_take (i := 2) (v := ?_) rfl (by kernel_rfl) (by kernel_rfl) (by kernel_rfl) (fun _ _ _ h => h) (Or.inl ⟨by rfl, ?_⟩) (by assumption) ?_
    rotate_left
    · (intro w hSw; (try dsimp only at hSw); go_simp; try with_reducible rfl)
    try simp only [List.getElem_toArray, List.getElem_cons_succ, List.getElem_cons_zero, Act.put, List.setIfInBounds_toArray, List.set_cons_zero, List.set_cons_succ]
    refine wpAnyH_take (i := 3) (v := ?_) rfl (by kernel_rfl) (by kernel_rfl) (by kernel_rfl) (fun _ _ _ h => h) (Or.inl ⟨by rfl, ?_⟩) (by assumption) ?_
    rotate_left
    · (intro w hSw; (try dsimp only at hSw); go_simp; try with_reducible rfl)
    try simp only [List.getElem_toArray, List.getElem_cons_succ, List.getElem_cons_zero, Act.put, List.setIfInBounds_toArray, List.set_cons_zero, List.set_cons_succ]
    refine wpAnyH_take (i := 4) (v := ?_) rfl (by kernel_rfl) (by kernel_rfl) (by kernel_rfl) (fun _ _ _ h => h) (Or.inl ⟨by rfl, ?_⟩) (by assumption) ?_
    rotate_left
    · (intro w hSw; (try dsimp only at hSw); go_simp; try with_reducible rfl)
    try simp only [List.getElem_toArray, List.getElem_cons_succ, List.getElem_cons_zero, Act.put, List.setIfInBounds_toArray, List.set_cons_zero, List.set_cons_succ]
    refine wpAnyH_take (i := 6) (v := ?_) rfl (by kernel_rfl) (by kernel_rfl) (by kernel_rfl) (fun _ _ _ h => h) (Or.inl ⟨by rfl, ?_⟩) (by assumption) ?_
    rotate_left
    · (intro w hSw; (try dsimp only at hSw); go_simp; try with_reducible rfl)
    try simp only [List.getElem_toArray, List.getElem_cons_succ, List.getElem_cons_zero, Act.put, List.setIfInBounds_toArray, List.set_cons_zero, List.set_cons_succ]
    refine wpAnyH_ready (rs := [5]) (by kernel_rfl) (by simp) ?_
    refine AllReadyH.cons rfl (fun K hK => ?_) AllReadyH.nil
    go_simp
    go_at_call 16; refine (refplain_any _ l b _ _ (HV.out.only (by first | with_reducible exact Only.refl [] _ | exact (Only.refl [] _).drew) (by simp)) HU8.out HU1.out).mono ?_; rintro e w9 ⟨v3, rfl, hr3, ho⟩; (first | (have ho := undrew ho) | skip); have HC := hide (HC.out.trans ho); have HT := hide (HT.out.only ho (by simp)); have HV := hide (HV.out.only ho (by simp)); have HBX := hide (HBX.out.only ho (by simp)); have c0 := HBX.out.cell 0; have c1 := HBX.out.cell 1; simp at c0 c1; (first | (have HRS := hide (HRS.out.only ho (by simp))) | skip); clear ho; have HRS := hide hr3; obtain ⟨A3, c3, rfl, _, _⟩ := hr3.formb; clear hr3
    refine hK.out _ _ (by exact ⟨c0, c1⟩) (fun hHeld => ?_)
    clear hK K
    try simp only [List.getElem_toArray, List.getElem_cons_succ, List.getElem_cons_zero, Act.put, List.setIfInBounds_toArray, List.set_cons_zero, List.set_cons_succ]
    refine wpAnyH_ready (rs := [7]) (by kernel_rfl) (by simp) ?_
    refine AllReadyH.cons rfl (fun K hK => ?_) AllReadyH.nil
    go_simp
    go_at_call 11; refine (refsame_yes _ _ (plainV l b) l b _ _ _ HPLV.out HRS.out HV.out).mono ?_; rintro e w9 ⟨rfl, ho⟩; (first | (have ho := undrew ho) | skip); have HC := hide (HC.out.trans ho); have HT := hide (HT.out.only ho (by simp)); have HV := hide (HV.out.only ho (by simp)); have HBX := hide (HBX.out.only ho (by simp)); have c0 := HBX.out.cell 0; have c1 := HBX.out.cell 1; simp at c0 c1; (first | (have HRS := hide (HRS.out.only ho (by simp))) | skip); clear ho
    refine hK.out _ _ (by exact ⟨c0, c1⟩) (fun hHeld => ?_)
    clear hK K
    try simp only [List.getElem_toArray, List.getElem_cons_succ, List.getElem_cons_zero, Act.put, List.setIfInBounds_toArray, List.set_cons_zero, List.set_cons_succ]
    refine wpAnyH_take (i := 8) (v := ?_) rfl (by kernel_rfl) (by kernel_rfl) (by kernel_rfl) (fun _ _ _ h => h) (Or.inl ⟨by rfl, ?_⟩) (by assumption) ?_
    rotate_left
    · (intro w hSw; (try dsimp only at hSw); go_simp; try with_reducible rfl)
    try simp only [List.getElem_toArray, List.getElem_cons_succ, List.getElem_cons_zero, Act.put, List.setIfInBounds_toArray, List.set_cons_zero, List.set_cons_succ]
    refine wpAnyH_take (i := 9) (v := ?_) rfl (by kernel_rfl) (by kernel_rfl) (by kernel_rfl) (fun _ _ _ h => h) (Or.inl ⟨by rfl, ?_⟩) (by assumption) ?_
    rotate_left
    · (intro w hSw; (try dsimp only at hSw); go_simp; try with_reducible rfl)
    try simp only [List.getElem_toArray, List.getElem_cons_succ, List.getElem_cons_zero, Act.put, List.setIfInBounds_toArray, List.set_cons_zero, List.set_cons_succ]
    refine wpAnyH_done (by kernel_rfl) ?_ _
    all_goals
      go_upto_region 15 with (first | (go_at_call 8; with_reducible refine (HRDP.out _).mono ?_; rintro e w7 ⟨v7, rfl, hr7, ho⟩; have HV7 := hide (hr7.only ((Only.refl [] w7).alloc (.cells #[v7, .int .i64 b] 30)) (by simp)); have HQ7 := hide (Blk.new w7 30 #[v7, .int .i64 b]); have ho := ho.alloc (.cells #[v7, .int .i64 b] 30); obtain ⟨A7, c7, rfl, _, _⟩ := hr7.formb; (first | (have ho := undrew ho) | skip); have HC := hide (HC.out.trans ho); have HT := hide (HT.out.only ho (by simp)); have HV := hide (HV.out.only ho (by simp)); have HBX := hide (HBX.out.only ho (by simp)); have c0 := HBX.out.cell 0; have c1 := HBX.out.cell 1; simp at c0 c1; clear ho; clear hr7))
      have q0 := HQ7.out.cell 0
      have q1 := HQ7.out.cell 1
      simp at q0 q1
      have c0 := HBX.out.cell 0
      have c1 := HBX.out.cell 1
      simp at c0 c1
      go_wp2_with (first
        | (go_at_call 17; with_reducible refine (HRPP.out _ HV.out).mono ?_; rintro e w8 ⟨rfl, ho⟩; (first | (have ho := undrew ho) | skip); have HC := hide (HC.out.trans ho); have HT := hide (HT.out.only ho (by simp)); have HV := hide (HV.out.only ho (by simp)); have HBX := hide (HBX.out.only ho (by simp)); have c0 := HBX.out.cell 0; have c1 := HBX.out.cell 1; simp at c0 c1; have HV7 := hide (HV7.out.only ho (by simp)); have HQ7 := hide (HQ7.out.only ho (by simp)); have q0 := HQ7.out.cell 0; have q1 := HQ7.out.cell 1; simp at q0 q1; clear ho)
        | (go_at_call 11; refine (refsame_yes _ _ l l (b : Int) _ _ _ rfl HV7.out HV.out).mono ?_; rintro e w9 ⟨rfl, ho⟩; (first | (have ho := undrew ho) | skip); have HC := hide (HC.out.trans ho); have HT := hide (HT.out.only ho (by simp)); have HV := hide (HV.out.only ho (by simp)); have HBX := hide (HBX.out.only ho (by simp)); have c0 := HBX.out.cell 0; have c1 := HBX.out.cell 1; simp at c0 c1; have HV7 := hide (HV7.out.only ho (by simp)); have HQ7 := hide (HQ7.out.only ho (by simp)); have q0 := HQ7.out.cell 0; have q1 := HQ7.out.cell 1; simp at q0 q1; clear ho))
      go_ret
      exact ⟨rfl, HC.out⟩
end
end Go.Proofs.YthecnaclfhfilaaDoor

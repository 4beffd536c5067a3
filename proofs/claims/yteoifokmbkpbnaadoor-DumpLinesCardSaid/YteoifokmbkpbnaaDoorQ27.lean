/-
  Walks and plain words (texts Dl5). No condition beyond those that each theorem states.
-/
import Derived.Deep.RegionHeld3
import Derived.Test.YteoifokmbkpbnaaDoorQ26
namespace Go.Proofs.YteoifokmbkpbnaaDoor
section
open Go.RowKit Go.Deep

set_option maxRecDepth 100000 in
set_option maxHeartbeats 12800000 in
theorem LineR_ok (w : World) (i f t d : Nat) (A : Option Addr) (cap : Nat) (l : List UInt8) (m : Mg) (hl : l.length ≤ 3000) (hm : (readV l).2 = m.cells) (hF : m.Fine) (hrd : Rd w [] (.slice A l.length cap) (ints .u8 (byts l))) (hi : i < 9223372036854775808) (hf : f < 9223372036854775808) (ht : t < 9223372036854775808) (hd : d < 9223372036854775808) :
    Calls Tryd.prog 21 #[.int .i64 (i : Nat), .agg #[.int .i64 (f : Nat), .int .i64 (t : Nat), .slice A l.length cap, .int .i64 (d : Nat)]] w (SWPost (joinW (wordsW i f t d (readV l).1 m l.length)) w) := by
  have hs32 := hF.s
  have hr32 := hF.r
  have hc64 := hF.c
  have hx10 := hF.x10
  have HTW := tail_cd (readV l).1 m l.length (kind14 hm)
  obtain ⟨k, s, r, c, x4, x5, x6, x7, x8, x9, x10, x11, x12⟩ := m
  dsimp only at HTW
  have KO := hide (fun W h => ReadR_any W (.slice A l.length cap) l (by omega) h)
  unfold ReadPostW at KO
  rw [hm] at KO
  unfold Mg.cells at KO
  simp only at KO hs32 hr32 hc64 hx10
  have HRD := hide hrd
  clear hm hrd
  generalize (readV l).1 = cd at *
  replace HTW := hide HTW
  obtain ⟨si, e_si⟩ : ∃ S : ByteArray, S = decS (i) := ⟨_, rfl⟩
  have P1 := hide (fun W => print_refd W (i) (by omega))
  unfold SWPost at P1
  rw [← e_si] at P1
  have E1 := hide e_si
  have Z1 := hide (show si.size ≤ 100001 by rw [e_si]; exact decS_size1 _ (by omega))
  have V1 := hide (show IntKind.u64.wrap ((i : Nat) : Int) = ((i : Nat) : Int) by rw [IntKind.wrap_u64]; omega)
  clear e_si
  obtain ⟨wf, e_wf⟩ : ∃ S : ByteArray, S = wordS (f) := ⟨_, rfl⟩
  have P2 := hide (fun W => word_any24 W (f) (by omega))
  unfold SWPost at P2
  rw [← e_wf] at P2
  have E2 := hide e_wf
  have Z2 := hide (show wf.size ≤ 100001 by rw [e_wf]; exact wordS_size _ (by omega))
  have V2 := hide (show IntKind.u64.wrap ((f : Nat) : Int) = ((f : Nat) : Int) by rw [IntKind.wrap_u64]; omega)
  clear e_wf
  obtain ⟨wt, e_wt⟩ : ∃ S : ByteArray, S = wordS (t) := ⟨_, rfl⟩
  have P3 := hide (fun W => word_any24 W (t) (by omega))
  unfold SWPost at P3
  rw [← e_wt] at P3
  have E3 := hide e_wt
  have Z3 := hide (show wt.size ≤ 100001 by rw [e_wt]; exact wordS_size _ (by omega))
  have V3 := hide (show IntKind.u64.wrap ((t : Nat) : Int) = ((t : Nat) : Int) by rw [IntKind.wrap_u64]; omega)
  clear e_wt
  obtain ⟨wd, e_wd⟩ : ∃ S : ByteArray, S = wordS (d) := ⟨_, rfl⟩
  have P4 := hide (fun W => word_any24 W (d) (by omega))
  unfold SWPost at P4
  rw [← e_wd] at P4
  have E4 := hide e_wd
  have Z4 := hide (show wd.size ≤ 100001 by rw [e_wd]; exact wordS_size _ (by omega))
  have V4 := hide (show IntKind.u64.wrap ((d : Nat) : Int) = ((d : Nat) : Int) by rw [IntKind.wrap_u64]; omega)
  clear e_wd
  obtain ⟨ws, e_ws⟩ : ∃ S : ByteArray, S = wordS (s) := ⟨_, rfl⟩
  have P5 := hide (fun W => word_any24 W (s) (by omega))
  unfold SWPost at P5
  rw [← e_ws] at P5
  have E5 := hide e_ws
  have Z5 := hide (show ws.size ≤ 100001 by rw [e_ws]; exact wordS_size _ (by omega))
  have V5 := hide (show IntKind.u64.wrap ((s : Nat) : Int) = ((s : Nat) : Int) by rw [IntKind.wrap_u64]; omega)
  clear e_ws
  obtain ⟨wr, e_wr⟩ : ∃ S : ByteArray, S = wordS (r) := ⟨_, rfl⟩
  have P6 := hide (fun W => word_any24 W (r) (by omega))
  unfold SWPost at P6
  rw [← e_wr] at P6
  have E6 := hide e_wr
  have Z6 := hide (show wr.size ≤ 100001 by rw [e_wr]; exact wordS_size _ (by omega))
  have V6 := hide (show IntKind.u64.wrap ((r : Nat) : Int) = ((r : Nat) : Int) by rw [IntKind.wrap_u64]; omega)
  clear e_wr
  obtain ⟨wc, e_wc⟩ : ∃ S : ByteArray, S = wordS (c) := ⟨_, rfl⟩
  have P7 := hide (fun W => word_any24 W (c) (by omega))
  unfold SWPost at P7
  rw [← e_wc] at P7
  have E7 := hide e_wc
  have Z7 := hide (show wc.size ≤ 100001 by rw [e_wc]; exact wordS_size _ (by omega))
  clear e_wc
  obtain ⟨wn, e_wn⟩ : ∃ S : ByteArray, S = wordS (l.length) := ⟨_, rfl⟩
  have P9 := hide (fun W => word_any24 W (l.length) (by omega))
  unfold SWPost at P9
  rw [← e_wn] at P9
  have E9 := hide e_wn
  have Z9 := hide (show wn.size ≤ 100001 by rw [e_wn]; exact wordS_size _ (by omega))
  have V9 := hide (show IntKind.u64.wrap ((l.length : Nat) : Int) = ((l.length : Nat) : Int) by rw [IntKind.wrap_u64]; omega)
  clear e_wn
  have HXS := hide hx10
  have HO := hide ((Only.refl [] w).alloc (.cells #[.int .i64 (f : Nat), .int .i64 (t : Nat), .slice A l.length cap, .int .i64 (d : Nat)] 49))
  have HB := hide (Blk.new w 49 #[.int .i64 (f : Nat), .int .i64 (t : Nat), .slice A l.length cap, .int .i64 (d : Nat)])
  clear hi hf ht hd hs32 hr32 hc64 hx10 hF
  go_enter Tryd.func21, Tryd.ntmps21
  go_upto_region 1 with fail
  generalize (w.alloc (.cells #[.int .i64 (f : Nat), .int .i64 (t : Nat), .slice A l.length cap, .int .i64 (d : Nat)] 49)) = v0 at *
  refine wp_region_held_drew (S := fun W => Only [] v0 W) (by kernel_rfl) (by exact (Only.refl [] v0).drew) (fun hHeld => ?_)
  generalize v0.drew = wd1 at *
  refine wpAnyH_take (i := 0) (v := ?_) rfl (by kernel_rfl) (by kernel_rfl) (by kernel_rfl) (fun _ _ _ h => h) (Or.inl ⟨by rfl, ?_⟩) (by assumption) ?_
  rotate_left
  · (intro w hSw; (try dsimp only at hSw); go_simp; try with_reducible rfl)
  try simp only [List.getElem_toArray, List.getElem_cons_succ, List.getElem_cons_zero, Act.put, List.setIfInBounds_toArray, List.set_cons_zero, List.set_cons_succ]
  refine wpAnyH_take (i := 1) (v := ?_) rfl (by kernel_rfl) (by kernel_rfl) (by kernel_rfl) (fun _ _ _ h => h) (Or.inl ⟨by rfl, ?_⟩) (by assumption) ?_
  rotate_left
  · (intro w hSw; (try dsimp only at hSw); have hcv := V1.out; go_simp; try with_reducible rfl)
  try simp only [List.getElem_toArray, List.getElem_cons_succ, List.getElem_cons_zero, Act.put, List.setIfInBounds_toArray, List.set_cons_zero, List.set_cons_succ]
  refine wpAnyH_take (i := 3) (v := ?_) rfl (by kernel_rfl) (by kernel_rfl) (by kernel_rfl) (fun _ _ _ h => h) (Or.inl ⟨by rfl, ?_⟩) (by assumption) ?_
  rotate_left
  · (intro w hSw; (try dsimp only at hSw); go_simp; try with_reducible rfl)
  try simp only [List.getElem_toArray, List.getElem_cons_succ, List.getElem_cons_zero, Act.put, List.setIfInBounds_toArray, List.set_cons_zero, List.set_cons_succ]
  refine wpAnyH_take (i := 4) (v := ?_) rfl (by kernel_rfl) (by kernel_rfl) (by kernel_rfl) (fun _ _ _ h => h) (Or.inl ⟨by rfl, ?_⟩) (by assumption) ?_
  rotate_left
  · (intro w hSw; (try dsimp only at hSw); have HBw := HB.out.only hSw (by simp); have c0 := HBw.cell 0; simp at c0; clear HBw; go_simp; try with_reducible rfl)
  try simp only [List.getElem_toArray, List.getElem_cons_succ, List.getElem_cons_zero, Act.put, List.setIfInBounds_toArray, List.set_cons_zero, List.set_cons_succ]
  refine wpAnyH_take (i := 5) (v := ?_) rfl (by kernel_rfl) (by kernel_rfl) (by kernel_rfl) (fun _ _ _ h => h) (Or.inl ⟨by rfl, ?_⟩) (by assumption) ?_
  rotate_left
  · (intro w hSw; (try dsimp only at hSw); have hcv := V2.out; go_simp; try with_reducible rfl)
  try simp only [List.getElem_toArray, List.getElem_cons_succ, List.getElem_cons_zero, Act.put, List.setIfInBounds_toArray, List.set_cons_zero, List.set_cons_succ]
  refine wpAnyH_take (i := 8) (v := ?_) rfl (by kernel_rfl) (by kernel_rfl) (by kernel_rfl) (fun _ _ _ h => h) (Or.inl ⟨by rfl, ?_⟩) (by assumption) ?_
  rotate_left
  · (intro w hSw; (try dsimp only at hSw); go_simp; try with_reducible rfl)
  try simp only [List.getElem_toArray, List.getElem_cons_succ, List.getElem_cons_zero, Act.put, List.setIfInBounds_toArray, List.set_cons_zero, List.set_cons_succ]
  refine wpAnyH_take (i := 9) (v := ?_) rfl (by kernel_rfl) (by kernel_rfl) (by kernel_rfl) (fun _ _ _ h => h) (Or.inl ⟨by rfl, ?_⟩) (by assumption) ?_
  rotate_left
  · (intro w hSw; (try dsimp only at hSw); have HBw := HB.out.only hSw (by simp); have c1 := HBw.cell 1; simp at c1; clear HBw; go_simp; try with_reducible rfl)
  try simp only [List.getElem_toArray, List.getElem_cons_succ, List.getElem_cons_zero, Act.put, List.setIfInBounds_toArray, List.set_cons_zero, List.set_cons_succ]
  refine wpAnyH_take (i := 10) (v := ?_) rfl (by kernel_rfl) (by kernel_rfl) (by kernel_rfl) (fun _ _ _ h => h) (Or.inl ⟨by rfl, ?_⟩) (by assumption) ?_
  rotate_left
  · (intro w hSw; (try dsimp only at hSw); have hcv := V3.out; go_simp; try with_reducible rfl)
  try simp only [List.getElem_toArray, List.getElem_cons_succ, List.getElem_cons_zero, Act.put, List.setIfInBounds_toArray, List.set_cons_zero, List.set_cons_succ]
  refine wpAnyH_take (i := 13) (v := ?_) rfl (by kernel_rfl) (by kernel_rfl) (by kernel_rfl) (fun _ _ _ h => h) (Or.inl ⟨by rfl, ?_⟩) (by assumption) ?_
  rotate_left
  · (intro w hSw; (try dsimp only at hSw); go_simp; try with_reducible rfl)
  try simp only [List.getElem_toArray, List.getElem_cons_succ, List.getElem_cons_zero, Act.put, List.setIfInBounds_toArray, List.set_cons_zero, List.set_cons_succ]
  refine wpAnyH_take (i := 14) (v := ?_) rfl (by kernel_rfl) (by kernel_rfl) (by kernel_rfl) (fun _ _ _ h => h) (Or.inl ⟨by rfl, ?_⟩) (by assumption) ?_
  rotate_left
  · (intro w hSw; (try dsimp only at hSw); have HBw := HB.out.only hSw (by simp); have c3 := HBw.cell 3; simp at c3; clear HBw; go_simp; try with_reducible rfl)
  try simp only [List.getElem_toArray, List.getElem_cons_succ, List.getElem_cons_zero, Act.put, List.setIfInBounds_toArray, List.set_cons_zero, List.set_cons_succ]
  refine wpAnyH_take (i := 15) (v := ?_) rfl (by kernel_rfl) (by kernel_rfl) (by kernel_rfl) (fun _ _ _ h => h) (Or.inl ⟨by rfl, ?_⟩) (by assumption) ?_
  rotate_left
  · (intro w hSw; (try dsimp only at hSw); have hcv := V4.out; go_simp; try with_reducible rfl)
  try simp only [List.getElem_toArray, List.getElem_cons_succ, List.getElem_cons_zero, Act.put, List.setIfInBounds_toArray, List.set_cons_zero, List.set_cons_succ]
  refine wpAnyH_ready (rs := [2]) (by kernel_rfl) (by simp) ?_
  refine (AllReadyH.cons rfl (fun K hK => ?_) AllReadyH.nil)
  go_simp
  (go_at_call 37; (with_reducible refine (P1.out _).mono ?_); rintro e2 w2 ⟨rfl, ho⟩)
  refine hK.out _ _ (by first | exact hHeld.trans ho | exact hHeld.trans (ho.mono (by simp))) (fun hHeldN => ?_)
  clear hK K ho hHeld
  have hHeld := hHeldN
  clear hHeldN
  try simp only [List.getElem_toArray, List.getElem_cons_succ, List.getElem_cons_zero, Act.put, List.setIfInBounds_toArray, List.set_cons_zero, List.set_cons_succ]
  refine wpAnyH_ready (rs := [6]) (by kernel_rfl) (by simp) ?_
  refine (AllReadyH.cons rfl (fun K hK => ?_) AllReadyH.nil)
  go_simp
  (go_at_call 45; (with_reducible refine (P2.out _).mono ?_); rintro e2 w6 ⟨rfl, ho⟩)
  refine hK.out _ _ (by first | exact hHeld.trans ho | exact hHeld.trans (ho.mono (by simp))) (fun hHeldN => ?_)
  clear hK K ho hHeld
  have hHeld := hHeldN
  clear hHeldN
  try simp only [List.getElem_toArray, List.getElem_cons_succ, List.getElem_cons_zero, Act.put, List.setIfInBounds_toArray, List.set_cons_zero, List.set_cons_succ]
  refine wpAnyH_take (i := 7) (v := ?_) rfl (by kernel_rfl) (by kernel_rfl) (by kernel_rfl) (fun _ _ _ h => h) (Or.inl ⟨by rfl, ?_⟩) (by assumption) ?_
  rotate_left
  · (intro w hSw; (try dsimp only at hSw); have := Z1.out; have := Z2.out; have hov : ¬ 9223372036854775807 < si.size + wf.size := (by omega); go_simp; try with_reducible rfl)
  try simp only [List.getElem_toArray, List.getElem_cons_succ, List.getElem_cons_zero, Act.put, List.setIfInBounds_toArray, List.set_cons_zero, List.set_cons_succ]
  refine wpAnyH_ready (rs := [11]) (by kernel_rfl) (by simp) ?_
  refine (AllReadyH.cons rfl (fun K hK => ?_) AllReadyH.nil)
  go_simp
  (go_at_call 45; (with_reducible refine (P3.out _).mono ?_); rintro e2 w11 ⟨rfl, ho⟩)
  refine hK.out _ _ (by first | exact hHeld.trans ho | exact hHeld.trans (ho.mono (by simp))) (fun hHeldN => ?_)
  clear hK K ho hHeld
  have hHeld := hHeldN
  clear hHeldN
  try simp only [List.getElem_toArray, List.getElem_cons_succ, List.getElem_cons_zero, Act.put, List.setIfInBounds_toArray, List.set_cons_zero, List.set_cons_succ]
  refine wpAnyH_take (i := 12) (v := ?_) rfl (by kernel_rfl) (by kernel_rfl) (by kernel_rfl) (fun _ _ _ h => h) (Or.inl ⟨by rfl, ?_⟩) (by assumption) ?_
  rotate_left
  · (intro w hSw; (try dsimp only at hSw); have := Z1.out; have := Z2.out; have := Z3.out; have hov : ¬ 9223372036854775807 < si.size + wf.size + wt.size := (by omega); go_simp; try with_reducible rfl)
  try simp only [List.getElem_toArray, List.getElem_cons_succ, List.getElem_cons_zero, Act.put, List.setIfInBounds_toArray, List.set_cons_zero, List.set_cons_succ]
  refine wpAnyH_ready (rs := [16]) (by kernel_rfl) (by simp) ?_
  refine (AllReadyH.cons rfl (fun K hK => ?_) AllReadyH.nil)
  go_simp
  (go_at_call 45; (with_reducible refine (P4.out _).mono ?_); rintro e2 w16 ⟨rfl, ho⟩)
  refine hK.out _ _ (by first | exact hHeld.trans ho | exact hHeld.trans (ho.mono (by simp))) (fun hHeldN => ?_)
  clear hK K ho hHeld
  have hHeld := hHeldN
  clear hHeldN
  try simp only [List.getElem_toArray, List.getElem_cons_succ, List.getElem_cons_zero, Act.put, List.setIfInBounds_toArray, List.set_cons_zero, List.set_cons_succ]
  refine wpAnyH_take (i := 17) (v := ?_) rfl (by kernel_rfl) (by kernel_rfl) (by kernel_rfl) (fun _ _ _ h => h) (Or.inl ⟨by rfl, ?_⟩) (by assumption) ?_
  rotate_left
  · (intro w hSw; (try dsimp only at hSw); have := Z1.out; have := Z2.out; have := Z3.out; have := Z4.out; have hov : ¬ 9223372036854775807 < si.size + wf.size + wt.size + wd.size := (by omega); go_simp; try with_reducible rfl)
  try simp only [List.getElem_toArray, List.getElem_cons_succ, List.getElem_cons_zero, Act.put, List.setIfInBounds_toArray, List.set_cons_zero, List.set_cons_succ]
  refine wpAnyH_take (i := 18) (v := ?_) rfl (by kernel_rfl) (by kernel_rfl) (by kernel_rfl) (fun _ _ _ h => h) (Or.inl ⟨by rfl, ?_⟩) (by assumption) ?_
  rotate_left
  · (intro w hSw; (try dsimp only at hSw); go_simp; try with_reducible rfl)
  try simp only [List.getElem_toArray, List.getElem_cons_succ, List.getElem_cons_zero, Act.put, List.setIfInBounds_toArray, List.set_cons_zero, List.set_cons_succ]
  refine wpAnyH_done (by kernel_rfl) ?_ _
  replace HO := hide (HO.out.trans hHeld)
  replace HB := hide (HB.out.only hHeld (by simp))
  clear hHeld
  rename World => v1
  have c2 := HB.out.cell 2; simp at c2
  go_upto_region 3 with (go_at_call 46; (with_reducible refine (KO.out _ (HRD.out.only HO.out (by simp))).mono ?_); rintro e2 v2 ⟨rfl, ho⟩; replace HO := hide (HO.out.trans ho); replace HB := hide (HB.out.only ho (by simp)); clear ho c2)
  replace HB := hide (HB.out.alloc (.cells #[.int .i64 k, .int .u32 (s : Nat), .int .u32 (r : Nat), .int .u64 (c : Nat), .string x4, .string x5, .string x6, .string x7, .string x8, .string x9, .string x10, .string x11, .string x12] 78))
  replace HO := hide (HO.out.alloc (.cells #[.int .i64 k, .int .u32 (s : Nat), .int .u32 (r : Nat), .int .u64 (c : Nat), .string x4, .string x5, .string x6, .string x7, .string x8, .string x9, .string x10, .string x11, .string x12] 78))
  have HMB := hide (Blk.new v2 78 #[.int .i64 k, .int .u32 (s : Nat), .int .u32 (r : Nat), .int .u64 (c : Nat), .string x4, .string x5, .string x6, .string x7, .string x8, .string x9, .string x10, .string x11, .string x12])
  obtain ⟨M, hM⟩ : ∃ M, M = v2.heap.size := ⟨_, rfl⟩
  rw [← hM] at HMB ⊢
  clear hM
  generalize (v2.alloc (.cells #[.int .i64 k, .int .u32 (s : Nat), .int .u32 (r : Nat), .int .u64 (c : Nat), .string x4, .string x5, .string x6, .string x7, .string x8, .string x9, .string x10, .string x11, .string x12] 78)) = v3 at *
  by_cases h0 : cd = 0
  · have hcb : (cd != 0) = false := bne_eq_false_iff_eq.2 h0
    by_cases hk : k = 1
    · have q1 : (k == 1) = true := by rw [beq_iff_eq]; exact hk
      have HV := hide (show joinW (wordsW i f t d cd ⟨k, s, r, c, x4, x5, x6, x7, x8, x9, x10, x11, x12⟩ l.length) = si ++ wf ++ wt ++ wd ++ ⟨#[32, 105, 110, 105, 116]⟩ ++ ws by rw [words_cat, HTW.out.1 h0 hk, cat_init, E1.out, E2.out, E3.out, E4.out, E5.out]; rfl)
      clear hk
      have m0 := HMB.out.cell 0; have m1 := HMB.out.cell 1; simp at m0 m1
      have hcv := V5.out
      have hz1 := Z1.out; have hz2 := Z2.out; have hz3 := Z3.out; have hz4 := Z4.out; have hz5 := Z5.out
      go_wp2_with (go_at_call 45; (with_reducible refine (P5.out _).mono ?_); rintro e2 w5 ⟨rfl, ho⟩; replace HO := hide (HO.out.trans ho); replace HB := hide (HB.out.only ho (by simp)); replace HMB := hide (HMB.out.only ho (by simp)); clear ho)
      go_ret
      exact swpost HV.out HO.out
    · have hk1 := hk
      have q1 : (k == 1) = false := by rw [beq_eq_false_iff_ne]; exact hk1
      clear hk
      by_cases hk : k = 2
      · have q2 : (k == 2) = true := by rw [beq_iff_eq]; exact hk
        have HV := hide (show joinW (wordsW i f t d cd ⟨k, s, r, c, x4, x5, x6, x7, x8, x9, x10, x11, x12⟩ l.length) = si ++ wf ++ wt ++ wd ++ ⟨#[32, 114, 101, 115, 112, 111, 110, 115, 101]⟩ ++ ws ++ wr by rw [words_cat, HTW.out.2.1 h0 hk, cat_response, E1.out, E2.out, E3.out, E4.out, E5.out, E6.out]; rfl)
        clear hk
        have m0 := HMB.out.cell 0; simp at m0
        go_upto_region 9 with fail
        refine wp_region_held_drew (S := fun W => Only [] v3 W) (by kernel_rfl) (by exact (Only.refl [] v3).drew) (fun hHeld => ?_)
        generalize v3.drew = wd9 at *
        refine wpAnyH_take (i := 0) (v := ?_) rfl (by kernel_rfl) (by kernel_rfl) (by kernel_rfl) (fun _ _ _ h => h) (Or.inl ⟨by rfl, ?_⟩) (by assumption) ?_
        rotate_left
        · (intro w hSw; (try dsimp only at hSw); go_simp; try with_reducible rfl)
        try simp only [List.getElem_toArray, List.getElem_cons_succ, List.getElem_cons_zero, Act.put, List.setIfInBounds_toArray, List.set_cons_zero, List.set_cons_succ]
        refine wpAnyH_take (i := 1) (v := ?_) rfl (by kernel_rfl) (by kernel_rfl) (by kernel_rfl) (fun _ _ _ h => h) (Or.inl ⟨by rfl, ?_⟩) (by assumption) ?_
        rotate_left
        · (intro w hSw; (try dsimp only at hSw); have := Z1.out; have := Z2.out; have := Z3.out; have := Z4.out; have hov : ¬ 9223372036854775807 < si.size + wf.size + wt.size + wd.size + 9 := (by omega); go_simp; try with_reducible rfl)
        try simp only [List.getElem_toArray, List.getElem_cons_succ, List.getElem_cons_zero, Act.put, List.setIfInBounds_toArray, List.set_cons_zero, List.set_cons_succ]
        refine wpAnyH_take (i := 2) (v := ?_) rfl (by kernel_rfl) (by kernel_rfl) (by kernel_rfl) (fun _ _ _ h => h) (Or.inl ⟨by rfl, ?_⟩) (by assumption) ?_
        rotate_left
        · (intro w hSw; (try dsimp only at hSw); go_simp; try with_reducible rfl)
        try simp only [List.getElem_toArray, List.getElem_cons_succ, List.getElem_cons_zero, Act.put, List.setIfInBounds_toArray, List.set_cons_zero, List.set_cons_succ]
        refine wpAnyH_take (i := 3) (v := ?_) rfl (by kernel_rfl) (by kernel_rfl) (by kernel_rfl) (fun _ _ _ h => h) (Or.inl ⟨by rfl, ?_⟩) (by assumption) ?_
        rotate_left
        · (intro w hSw; (try dsimp only at hSw); have HMw := HMB.out.only hSw (by simp); have m1 := HMw.cell 1; simp at m1; clear HMw; go_simp; try with_reducible rfl)
        try simp only [List.getElem_toArray, List.getElem_cons_succ, List.getElem_cons_zero, Act.put, List.setIfInBounds_toArray, List.set_cons_zero, List.set_cons_succ]
        refine wpAnyH_take (i := 4) (v := ?_) rfl (by kernel_rfl) (by kernel_rfl) (by kernel_rfl) (fun _ _ _ h => h) (Or.inl ⟨by rfl, ?_⟩) (by assumption) ?_
        rotate_left
        · (intro w hSw; (try dsimp only at hSw); have hcv := V5.out; go_simp; try with_reducible rfl)
        try simp only [List.getElem_toArray, List.getElem_cons_succ, List.getElem_cons_zero, Act.put, List.setIfInBounds_toArray, List.set_cons_zero, List.set_cons_succ]
        refine wpAnyH_take (i := 7) (v := ?_) rfl (by kernel_rfl) (by kernel_rfl) (by kernel_rfl) (fun _ _ _ h => h) (Or.inl ⟨by rfl, ?_⟩) (by assumption) ?_
        rotate_left
        · (intro w hSw; (try dsimp only at hSw); go_simp; try with_reducible rfl)
        try simp only [List.getElem_toArray, List.getElem_cons_succ, List.getElem_cons_zero, Act.put, List.setIfInBounds_toArray, List.set_cons_zero, List.set_cons_succ]
        refine wpAnyH_take (i := 8) (v := ?_) rfl (by kernel_rfl) (by kernel_rfl) (by kernel_rfl) (fun _ _ _ h => h) (Or.inl ⟨by rfl, ?_⟩) (by assumption) ?_
        rotate_left
        · (intro w hSw; (try dsimp only at hSw); have HMw := HMB.out.only hSw (by simp); have m2 := HMw.cell 2; simp at m2; clear HMw; go_simp; try with_reducible rfl)
        try simp only [List.getElem_toArray, List.getElem_cons_succ, List.getElem_cons_zero, Act.put, List.setIfInBounds_toArray, List.set_cons_zero, List.set_cons_succ]
        refine wpAnyH_take (i := 9) (v := ?_) rfl (by kernel_rfl) (by kernel_rfl) (by kernel_rfl) (fun _ _ _ h => h) (Or.inl ⟨by rfl, ?_⟩) (by assumption) ?_
        rotate_left
        · (intro w hSw; (try dsimp only at hSw); have hcv := V6.out; go_simp; try with_reducible rfl)
        try simp only [List.getElem_toArray, List.getElem_cons_succ, List.getElem_cons_zero, Act.put, List.setIfInBounds_toArray, List.set_cons_zero, List.set_cons_succ]
        refine wpAnyH_ready (rs := [5]) (by kernel_rfl) (by simp) ?_
        refine (AllReadyH.cons rfl (fun K hK => ?_) AllReadyH.nil)
        go_simp
        (go_at_call 45; (with_reducible refine (P5.out _).mono ?_); rintro e2 w5 ⟨rfl, ho⟩)
        refine hK.out _ _ (by first | exact hHeld.trans ho | exact hHeld.trans (ho.mono (by simp))) (fun hHeldN => ?_)
        clear hK K ho hHeld
        have hHeld := hHeldN
        clear hHeldN
        try simp only [List.getElem_toArray, List.getElem_cons_succ, List.getElem_cons_zero, Act.put, List.setIfInBounds_toArray, List.set_cons_zero, List.set_cons_succ]
        refine wpAnyH_take (i := 6) (v := ?_) rfl (by kernel_rfl) (by kernel_rfl) (by kernel_rfl) (fun _ _ _ h => h) (Or.inl ⟨by rfl, ?_⟩) (by assumption) ?_
        rotate_left
        · (intro w hSw; (try dsimp only at hSw); have := Z1.out; have := Z2.out; have := Z3.out; have := Z4.out; have := Z5.out; have hov : ¬ 9223372036854775807 < si.size + wf.size + wt.size + wd.size + 9 + ws.size := (by omega); go_simp; try with_reducible rfl)
        try simp only [List.getElem_toArray, List.getElem_cons_succ, List.getElem_cons_zero, Act.put, List.setIfInBounds_toArray, List.set_cons_zero, List.set_cons_succ]
        refine wpAnyH_ready (rs := [10]) (by kernel_rfl) (by simp) ?_
        refine (AllReadyH.cons rfl (fun K hK => ?_) AllReadyH.nil)
        go_simp
        (go_at_call 45; (with_reducible refine (P6.out _).mono ?_); rintro e2 w10 ⟨rfl, ho⟩)
        refine hK.out _ _ (by first | exact hHeld.trans ho | exact hHeld.trans (ho.mono (by simp))) (fun hHeldN => ?_)
        clear hK K ho hHeld
        have hHeld := hHeldN
        clear hHeldN
        try simp only [List.getElem_toArray, List.getElem_cons_succ, List.getElem_cons_zero, Act.put, List.setIfInBounds_toArray, List.set_cons_zero, List.set_cons_succ]
        refine wpAnyH_take (i := 11) (v := ?_) rfl (by kernel_rfl) (by kernel_rfl) (by kernel_rfl) (fun _ _ _ h => h) (Or.inl ⟨by rfl, ?_⟩) (by assumption) ?_
        rotate_left
        · (intro w hSw; (try dsimp only at hSw); have := Z1.out; have := Z2.out; have := Z3.out; have := Z4.out; have := Z5.out; have := Z6.out; have hov : ¬ 9223372036854775807 < si.size + wf.size + wt.size + wd.size + 9 + ws.size + wr.size := (by omega); go_simp; try with_reducible rfl)
        try simp only [List.getElem_toArray, List.getElem_cons_succ, List.getElem_cons_zero, Act.put, List.setIfInBounds_toArray, List.set_cons_zero, List.set_cons_succ]
        refine wpAnyH_take (i := 12) (v := ?_) rfl (by kernel_rfl) (by kernel_rfl) (by kernel_rfl) (fun _ _ _ h => h) (Or.inl ⟨by rfl, ?_⟩) (by assumption) ?_
        rotate_left
        · (intro w hSw; (try dsimp only at hSw); go_simp; try with_reducible rfl)
        try simp only [List.getElem_toArray, List.getElem_cons_succ, List.getElem_cons_zero, Act.put, List.setIfInBounds_toArray, List.set_cons_zero, List.set_cons_succ]
        refine wpAnyH_done (by kernel_rfl) ?_ _
        replace HO := hide (HO.out.trans hHeld)
        go_wp2_with fail
        go_ret
        exact swpost HV.out HO.out
      · have hk2 := hk
        have q2 : (k == 2) = false := by rw [beq_eq_false_iff_ne]; exact hk2
        clear hk
        by_cases hk : k = 3
        · have q3 : (k == 3) = true := by rw [beq_iff_eq]; exact hk
          have HV := hide (show joinW (wordsW i f t d cd ⟨k, s, r, c, x4, x5, x6, x7, x8, x9, x10, x11, x12⟩ l.length) = si ++ wf ++ wt ++ wd ++ ⟨#[32, 99, 111, 111, 107, 105, 101]⟩ ++ wr by rw [words_cat, HTW.out.2.2.1 h0 hk, cat_cookie, E1.out, E2.out, E3.out, E4.out, E6.out]; rfl)
          clear hk
          have m0 := HMB.out.cell 0; have m2 := HMB.out.cell 2; simp at m0 m2
          have hcv := V6.out
          have hz1 := Z1.out; have hz2 := Z2.out; have hz3 := Z3.out; have hz4 := Z4.out; have hz6 := Z6.out
          go_wp2_with (go_at_call 45; (with_reducible refine (P6.out _).mono ?_); rintro e2 w5 ⟨rfl, ho⟩; replace HO := hide (HO.out.trans ho); replace HB := hide (HB.out.only ho (by simp)); replace HMB := hide (HMB.out.only ho (by simp)); clear ho)
          go_ret
          exact swpost HV.out HO.out
        · have HTD := hide (HTW.out.2.2.2.1 h0 hk1 hk2 hk)
          have q3 : (k == 3) = false := by rw [beq_eq_false_iff_ne]; exact hk
          clear hk hk1 hk2 HTW
          have m0 := HMB.out.cell 0; simp at m0
          go_upto_region 12 with fail
          refine wp_region_held_drew (S := fun W => Only [] v3 W) (by kernel_rfl) (by exact (Only.refl [] v3).drew) (fun hHeld => ?_)
          generalize v3.drew = wd12 at *
          refine wpAnyH_take (i := 0) (v := ?_) rfl (by kernel_rfl) (by kernel_rfl) (by kernel_rfl) (fun _ _ _ h => h) (Or.inl ⟨by rfl, ?_⟩) (by assumption) ?_
          rotate_left
          · (intro w hSw; (try dsimp only at hSw); go_simp; try with_reducible rfl)
          try simp only [List.getElem_toArray, List.getElem_cons_succ, List.getElem_cons_zero, Act.put, List.setIfInBounds_toArray, List.set_cons_zero, List.set_cons_succ]
          refine wpAnyH_take (i := 1) (v := ?_) rfl (by kernel_rfl) (by kernel_rfl) (by kernel_rfl) (fun _ _ _ h => h) (Or.inl ⟨by rfl, ?_⟩) (by assumption) ?_
          rotate_left
          · (intro w hSw; (try dsimp only at hSw); have := Z1.out; have := Z2.out; have := Z3.out; have := Z4.out; have hov : ¬ 9223372036854775807 < si.size + wf.size + wt.size + wd.size + 5 := (by omega); go_simp; try with_reducible rfl)
          try simp only [List.getElem_toArray, List.getElem_cons_succ, List.getElem_cons_zero, Act.put, List.setIfInBounds_toArray, List.set_cons_zero, List.set_cons_succ]
          refine wpAnyH_take (i := 2) (v := ?_) rfl (by kernel_rfl) (by kernel_rfl) (by kernel_rfl) (fun _ _ _ h => h) (Or.inl ⟨by rfl, ?_⟩) (by assumption) ?_
          rotate_left
          · (intro w hSw; (try dsimp only at hSw); go_simp; try with_reducible rfl)
          try simp only [List.getElem_toArray, List.getElem_cons_succ, List.getElem_cons_zero, Act.put, List.setIfInBounds_toArray, List.set_cons_zero, List.set_cons_succ]
          refine wpAnyH_take (i := 3) (v := ?_) rfl (by kernel_rfl) (by kernel_rfl) (by kernel_rfl) (fun _ _ _ h => h) (Or.inl ⟨by rfl, ?_⟩) (by assumption) ?_
          rotate_left
          · (intro w hSw; (try dsimp only at hSw); have HMw := HMB.out.only hSw (by simp); have m2 := HMw.cell 2; simp at m2; clear HMw; go_simp; try with_reducible rfl)
          try simp only [List.getElem_toArray, List.getElem_cons_succ, List.getElem_cons_zero, Act.put, List.setIfInBounds_toArray, List.set_cons_zero, List.set_cons_succ]
          refine wpAnyH_take (i := 4) (v := ?_) rfl (by kernel_rfl) (by kernel_rfl) (by kernel_rfl) (fun _ _ _ h => h) (Or.inl ⟨by rfl, ?_⟩) (by assumption) ?_
          rotate_left
          · (intro w hSw; (try dsimp only at hSw); have hcv := V6.out; go_simp; try with_reducible rfl)
          try simp only [List.getElem_toArray, List.getElem_cons_succ, List.getElem_cons_zero, Act.put, List.setIfInBounds_toArray, List.set_cons_zero, List.set_cons_succ]
          refine wpAnyH_take (i := 7) (v := ?_) rfl (by kernel_rfl) (by kernel_rfl) (by kernel_rfl) (fun _ _ _ h => h) (Or.inl ⟨by rfl, ?_⟩) (by assumption) ?_
          rotate_left
          · (intro w hSw; (try dsimp only at hSw); go_simp; try with_reducible rfl)
          try simp only [List.getElem_toArray, List.getElem_cons_succ, List.getElem_cons_zero, Act.put, List.setIfInBounds_toArray, List.set_cons_zero, List.set_cons_succ]
          refine wpAnyH_take (i := 8) (v := ?_) rfl (by kernel_rfl) (by kernel_rfl) (by kernel_rfl) (fun _ _ _ h => h) (Or.inl ⟨by rfl, ?_⟩) (by assumption) ?_
          rotate_left
          · (intro w hSw; (try dsimp only at hSw); have HMw := HMB.out.only hSw (by simp); have m3 := HMw.cell 3; simp at m3; clear HMw; go_simp; try with_reducible rfl)
          try simp only [List.getElem_toArray, List.getElem_cons_succ, List.getElem_cons_zero, Act.put, List.setIfInBounds_toArray, List.set_cons_zero, List.set_cons_succ]
          refine wpAnyH_ready (rs := [5]) (by kernel_rfl) (by simp) ?_
          refine (AllReadyH.cons rfl (fun K hK => ?_) AllReadyH.nil)
          go_simp
          (go_at_call 45; (with_reducible refine (P6.out _).mono ?_); rintro e2 w5 ⟨rfl, ho⟩)
          refine hK.out _ _ (by first | exact hHeld.trans ho | exact hHeld.trans (ho.mono (by simp))) (fun hHeldN => ?_)
          clear hK K ho hHeld
          have hHeld := hHeldN
          clear hHeldN
          try simp only [List.getElem_toArray, List.getElem_cons_succ, List.getElem_cons_zero, Act.put, List.setIfInBounds_toArray, List.set_cons_zero, List.set_cons_succ]
          refine wpAnyH_take (i := 6) (v := ?_) rfl (by kernel_rfl) (by kernel_rfl) (by kernel_rfl) (fun _ _ _ h => h) (Or.inl ⟨by rfl, ?_⟩) (by assumption) ?_
          rotate_left
          · (intro w hSw; (try dsimp only at hSw); have := Z1.out; have := Z2.out; have := Z3.out; have := Z4.out; have := Z6.out; have hov : ¬ 9223372036854775807 < si.size + wf.size + wt.size + wd.size + 5 + wr.size := (by omega); go_simp; try with_reducible rfl)
          try simp only [List.getElem_toArray, List.getElem_cons_succ, List.getElem_cons_zero, Act.put, List.setIfInBounds_toArray, List.set_cons_zero, List.set_cons_succ]
          refine wpAnyH_ready (rs := [9]) (by kernel_rfl) (by simp) ?_
          refine (AllReadyH.cons rfl (fun K hK => ?_) AllReadyH.nil)
          go_simp
          (go_at_call 45; (with_reducible refine (P7.out _).mono ?_); rintro e2 w9 ⟨rfl, ho⟩)
          refine hK.out _ _ (by first | exact hHeld.trans ho | exact hHeld.trans (ho.mono (by simp))) (fun hHeldN => ?_)
          clear hK K ho hHeld
          have hHeld := hHeldN
          clear hHeldN
          try simp only [List.getElem_toArray, List.getElem_cons_succ, List.getElem_cons_zero, Act.put, List.setIfInBounds_toArray, List.set_cons_zero, List.set_cons_succ]
          refine wpAnyH_take (i := 10) (v := ?_) rfl (by kernel_rfl) (by kernel_rfl) (by kernel_rfl) (fun _ _ _ h => h) (Or.inl ⟨by rfl, ?_⟩) (by assumption) ?_
          rotate_left
          · (intro w hSw; (try dsimp only at hSw); have := Z1.out; have := Z2.out; have := Z3.out; have := Z4.out; have := Z6.out; have := Z7.out; have hov : ¬ 9223372036854775807 < si.size + wf.size + wt.size + wd.size + 5 + wr.size + wc.size := (by omega); go_simp; try with_reducible rfl)
          try simp only [List.getElem_toArray, List.getElem_cons_succ, List.getElem_cons_zero, Act.put, List.setIfInBounds_toArray, List.set_cons_zero, List.set_cons_succ]
          refine wpAnyH_take (i := 11) (v := ?_) rfl (by kernel_rfl) (by kernel_rfl) (by kernel_rfl) (fun _ _ _ h => h) (Or.inl ⟨by rfl, ?_⟩) (by assumption) ?_
          rotate_left
          · (intro w hSw; (try dsimp only at hSw); go_simp; try with_reducible rfl)
          try simp only [List.getElem_toArray, List.getElem_cons_succ, List.getElem_cons_zero, Act.put, List.setIfInBounds_toArray, List.set_cons_zero, List.set_cons_succ]
          refine wpAnyH_done (by kernel_rfl) ?_ _
          replace HO := hide (HO.out.trans hHeld)
          replace HMB := hide (HMB.out.only hHeld (by simp))
          clear hHeld
          rename World => v4
          have m10 := HMB.out.cell 10; simp at m10
          have HRX := hide (fun W => readR_what W x10 HXS.out)
          go_upto_region 14 with (go_at_call 47; refine (HRX.out _).mono ?_; rintro e2 v5 ⟨bv, pv, rfl, ho, hb, hp⟩; obtain ⟨Ab, cb, rfl, _, _⟩ := hb.formb; have HPV := hide hp; obtain ⟨Ap, cp, rfl, _, _⟩ := hp.form; replace HO := hide (HO.out.trans ho); clear ho hb hp m10)
          replace HO := hide (HO.out.alloc (.cells #[.int .i64 (whatV x10).1, .int .u64 ((whatV x10).2.1 : Nat), .slice Ab (whatV x10).2.2.1.length cb, .slice Ap (strs (whatV x10).2.2.2).length cp] 88))
          replace HPV := hide (HPV.out.only ((Only.refl [] v5).alloc (.cells #[.int .i64 (whatV x10).1, .int .u64 ((whatV x10).2.1 : Nat), .slice Ab (whatV x10).2.2.1.length cb, .slice Ap (strs (whatV x10).2.2.2).length cp] 88)) (by simp))
          have HNB := hide (Blk.new v5 88 #[.int .i64 (whatV x10).1, .int .u64 ((whatV x10).2.1 : Nat), .slice Ab (whatV x10).2.2.1.length cb, .slice Ap (strs (whatV x10).2.2.2).length cp])
          obtain ⟨G, hG⟩ : ∃ G, G = v5.heap.size := ⟨_, rfl⟩
          rw [← hG] at HNB ⊢
          clear hG
          generalize (v5.alloc (.cells #[.int .i64 (whatV x10).1, .int .u64 ((whatV x10).2.1 : Nat), .slice Ab (whatV x10).2.2.1.length cb, .slice Ap (strs (whatV x10).2.2.2).length cp] 88)) = v6 at *
          obtain ⟨K, hK0⟩ : ∃ K, K = (whatV x10).1 := ⟨_, rfl⟩
          have HK0 := hide hK0
          rw [← hK0] at HNB
          clear hK0 HRX
          have n0 := HNB.out.cell 0; have n3 := HNB.out.cell 3; simp at n0 n3
          by_cases hK : K = 10
          · have qK : (K == 10) = true := beq_iff_eq.2 hK
            obtain ⟨p0, p1, p2, hps, hp1⟩ := seal_parts (t := x10) (by rw [what_kind, ← HK0.out]; exact hK)
            have hps2 := hps
            rw [what_parts] at hps2
            rw [hps2] at HPV n3 HNB
            rw [show (strs [p0, p1, p2]).length = 3 from rfl] at HPV n3 HNB
            obtain ⟨g, o, hA, _, hcl⟩ := rd_strs HPV.out (by simp)
            subst hA
            have HC1 := hide (fun W (h : Only [] v6 W) => (cell_only h (show (⟨g, o + 1, none⟩ : Addr).block < v6.heap.size from (rd_lt HPV.out (by simp [strs]))) (by simp)).trans (show v6.cell? ⟨g, o + 1, none⟩ = some (.string p1) from hcl 1 (by simp)))
            have hc1 := HC1.out _ (Only.refl [] v6)
            have HSW := hide (show sealW x10 = if (bytT p1).2 = true then decS (bytT p1).1.length else dashB by unfold sealW; rw [if_pos (by rw [what_kind, ← HK0.out]; exact hK), hps]; rfl)
            rw [what_bytes] at HSW
            have HR1 := hide (fun W => readR_what W p1 (by unfold maxLen; omega))
            have hbl := byt_len p1
            rw [what_bytes] at hbl
            simp only at hbl HSW
            have HBL := hide hbl
            clear hK hps hps2 hcl hbl hp1
            obtain ⟨K2, hK2⟩ : ∃ K2, K2 = (whatV p1).1 := ⟨_, rfl⟩
            rw [← hK2] at HSW HR1
            clear hK2
            generalize hl2 : (whatV p1).2.2.1 = bl at *
            clear hl2
            generalize (whatV p1).2.1 = n2 at *
            generalize (whatV p1).2.2.2 = pl2 at *
            have hf0 : ∀ (B1 B2 : Option Addr) (n1 c1 n3 c3 : Nat) (W : World), (Instr.field 88 (.agg #[.int .i64 K2, .int .u64 (n2 : Nat), .slice B1 n1 c1, .slice B2 n3 c3]) 0).run Tryd.prog W = .ok (.int .i64 K2) W := fun B1 B2 n1 c1 n3 c3 W => by kernel_rfl
            have hf2 : ∀ (B1 B2 : Option Addr) (n1 c1 n3 c3 : Nat) (W : World), (Instr.field 88 (.agg #[.int .i64 K2, .int .u64 (n2 : Nat), .slice B1 n1 c1, .slice B2 n3 c3]) 2).run Tryd.prog W = .ok (.slice B1 n1 c1) W := fun B1 B2 n1 c1 n3 c3 W => by kernel_rfl
            have HX := hide (Only.refl [] v6)
            by_cases hK2 : K2 = 4
            · have qK2 : (K2 == 4) = true := beq_iff_eq.2 hK2
              obtain ⟨nl, hnl⟩ : ∃ n, n = bl.length := ⟨_, rfl⟩
              obtain ⟨wx, e_wx⟩ : ∃ S : ByteArray, S = wordS bl.length := ⟨_, rfl⟩
              have HV := hide (show joinW (wordsW i f t d cd ⟨k, s, r, c, x4, x5, x6, x7, x8, x9, x10, x11, x12⟩ l.length) = si ++ wf ++ wt ++ wd ++ ⟨#[32, 100, 97, 116, 97]⟩ ++ wr ++ wc ++ wx by rw [words_cat, HTD.out, cat_data, E1.out, E2.out, E3.out, E4.out, E6.out, E7.out, show sealW x10 = decS bl.length by rw [HSW.out, if_pos (decide_eq_true hK2)], e_wx]; rfl)
              have P8 := hide (fun W => word_any24 W bl.length (by have := HBL.out; omega))
              unfold SWPost at P8
              rw [← e_wx] at P8
              have hz8 : wx.size ≤ 100001 := by rw [e_wx]; exact wordS_size _ (by have := HBL.out; omega)
              have hcv : IntKind.u64.wrap (bl.length : Int) = (bl.length : Int) := by rw [IntKind.wrap_u64]; have := HBL.out; omega
              clear hK2 e_wx hnl
              have hz1 := Z1.out; have hz2 := Z2.out; have hz3 := Z3.out; have hz4 := Z4.out; have hz6 := Z6.out; have hz7 := Z7.out
              go_wp2_with (first
    | (go_at_call 47; refine (HR1.out _).mono ?_; rintro e2 v7 ⟨bv, pv, rfl, ho, hb, hp⟩; obtain ⟨A1, c1, rfl, _, _⟩ := hb.formb; obtain ⟨A2, c2, rfl, _, _⟩ := hp.form; replace HX := hide (HX.out.trans ho); replace HNB := hide (HNB.out.only ho (by simp)); clear n0 n3 hc1; have n0 := HNB.out.cell 0; have n3 := HNB.out.cell 3; simp at n0 n3; have hc1 := HC1.out _ HX.out; clear ho hb hp)
    | (go_at_call 45; (with_reducible refine (P8.out _).mono ?_); rintro e2 v8 ⟨rfl, ho⟩; replace HX := hide (HX.out.trans ho); clear ho))
              go_ret
              exact swpost HV.out (HO.out.trans HX.out)
            · have qK2 : (K2 == 4) = false := beq_eq_false_iff_ne.2 hK2
              have HV := hide (show joinW (wordsW i f t d cd ⟨k, s, r, c, x4, x5, x6, x7, x8, x9, x10, x11, x12⟩ l.length) = si ++ wf ++ wt ++ wd ++ ⟨#[32, 100, 97, 116, 97]⟩ ++ wr ++ wc ++ ⟨#[32, 45]⟩ by rw [words_cat, HTD.out, cat_data, E1.out, E2.out, E3.out, E4.out, E6.out, E7.out, show sealW x10 = dashB by rw [HSW.out, if_neg (by simpa using hK2)], sp_dash]; rfl)
              clear hK2
              have hz1 := Z1.out; have hz2 := Z2.out; have hz3 := Z3.out; have hz4 := Z4.out; have hz6 := Z6.out; have hz7 := Z7.out
              go_wp2_with (go_at_call 47; refine (HR1.out _).mono ?_; rintro e2 v7 ⟨bv, pv, rfl, ho, hb, hp⟩; obtain ⟨A1, c1, rfl, _, _⟩ := hb.formb; obtain ⟨A2, c2, rfl, _, _⟩ := hp.form; replace HX := hide (HX.out.trans ho); replace HNB := hide (HNB.out.only ho (by simp)); clear n0 n3 hc1; have n0 := HNB.out.cell 0; have n3 := HNB.out.cell 3; simp at n0 n3; have hc1 := HC1.out _ HX.out; clear ho hb hp)
              go_ret
              exact swpost HV.out (HO.out.trans HX.out)
          · have qK : (K == 10) = false := beq_eq_false_iff_ne.2 hK
            have HV := hide (show joinW (wordsW i f t d cd ⟨k, s, r, c, x4, x5, x6, x7, x8, x9, x10, x11, x12⟩ l.length) = si ++ wf ++ wt ++ wd ++ ⟨#[32, 100, 97, 116, 97]⟩ ++ wr ++ wc ++ ⟨#[32, 45]⟩ by rw [words_cat, HTD.out, cat_data, E1.out, E2.out, E3.out, E4.out, E6.out, E7.out, show sealW x10 = dashB by unfold sealW; rw [if_neg (by rw [what_kind, ← HK0.out]; exact hK)], sp_dash]; rfl)
            clear hK
            have hz1 := Z1.out; have hz2 := Z2.out; have hz3 := Z3.out; have hz4 := Z4.out; have hz6 := Z6.out; have hz7 := Z7.out
            go_wp2_with fail
            go_ret
            exact swpost HV.out HO.out
  · have hcb : (cd != 0) = true := bne_iff_ne.2 h0
    have HV := hide (show joinW (wordsW i f t d cd ⟨k, s, r, c, x4, x5, x6, x7, x8, x9, x10, x11, x12⟩ l.length) = si ++ wf ++ wt ++ wd ++ ⟨#[32, 114, 97, 119]⟩ ++ wn by rw [words_cat, HTW.out.2.2.2.2 h0, cat_raw, E1.out, E2.out, E3.out, E4.out, E9.out]; rfl)
    clear h0
    have c2 := HB.out.cell 2; simp at c2
    have hcv := V9.out
    have hz1 := Z1.out; have hz2 := Z2.out; have hz3 := Z3.out; have hz4 := Z4.out; have hz9 := Z9.out
    go_wp2_with (go_at_call 45; (with_reducible refine (P9.out _).mono ?_); rintro e2 w5 ⟨rfl, ho⟩; replace HO := hide (HO.out.trans ho); replace HB := hide (HB.out.only ho (by simp)); replace HMB := hide (HMB.out.only ho (by simp)); clear ho)
    go_ret
    exact swpost HV.out HO.out
end
end Go.Proofs.YteoifokmbkpbnaaDoor

/-
  Walks and plain words (texts Dl4). No condition beyond those that each theorem states.
-/
import Derived.Deep.RegionHeld3
import Derived.Test.YteoifokmbkpbnaaDoorQ22
namespace Go.Proofs.YteoifokmbkpbnaaDoor
section
open Go.RowKit Go.Deep

set_option maxRecDepth 100000 in
set_option maxHeartbeats 12800000 in
theorem Line_ok (w : World) (i f t d : Nat) (A : Option Addr) (cap : Nat) (l : List UInt8) (m : Mg) (hl : l.length ≤ 3000) (hm : (readV l).2 = m.cells) (hz : (readV l).1 ≠ 0 → m = zgD) (hF : m.Fine) (hrd : Rd w [] (.slice A l.length cap) (ints .u8 (byts l))) (hi : i < 9223372036854775808) (hf : f < 9223372036854775808) (ht : t < 9223372036854775808) (hd : d < 9223372036854775808) (htab : Tab w) :
    Calls Tryd.prog 20 #[.int .i64 (i : Nat), .agg #[.int .i64 (f : Nat), .int .i64 (t : Nat), .slice A l.length cap, .int .i64 (d : Nat)]] w (LPost (joinW (wordsW i f t d (readV l).1 m l.length)) w) := by
  have hs32 := hF.s
  have hr32 := hF.r
  have hc64 := hF.c
  have hx10 := hF.x10
  have HTW := tail_kk (readV l).1 m l.length (kind14 hm)
  obtain ⟨k, s, r, c, x4, x5, x6, x7, x8, x9, x10, x11, x12⟩ := m
  dsimp only at HTW
  have KO := hide (fun W h => dkindOf_any W (.slice A l.length cap) l hl h _ hm hz)
  unfold KOPost Mg.cells at KO
  simp only at KO hs32 hr32 hc64 hx10
  have HRD := hide hrd
  clear hm hz hrd
  generalize (readV l).1 = cd at *
  generalize (if cd = 0 then k else 5) = kk at *
  replace HTW := hide HTW
  obtain ⟨si, e_si⟩ : ∃ S : ByteArray, S = decS (i) := ⟨_, rfl⟩
  have P1 := hide (fun W h => print_dec W (i) (by omega) h)
  unfold SWPost at P1
  rw [← e_si] at P1
  have E1 := hide e_si
  have Z1 := hide (show si.size ≤ 100000 by rw [e_si]; exact decS_size _ (by omega))
  have V1 := hide (show IntKind.u64.wrap ((i : Nat) : Int) = ((i : Nat) : Int) by rw [IntKind.wrap_u64]; omega)
  clear e_si
  obtain ⟨sf, e_sf⟩ : ∃ S : ByteArray, S = decS (f) := ⟨_, rfl⟩
  have P2 := hide (fun W h => print_dec W (f) (by omega) h)
  unfold SWPost at P2
  rw [← e_sf] at P2
  have E2 := hide e_sf
  have Z2 := hide (show sf.size ≤ 100000 by rw [e_sf]; exact decS_size _ (by omega))
  have V2 := hide (show IntKind.u64.wrap ((f : Nat) : Int) = ((f : Nat) : Int) by rw [IntKind.wrap_u64]; omega)
  clear e_sf
  obtain ⟨st, e_st⟩ : ∃ S : ByteArray, S = decS (t) := ⟨_, rfl⟩
  have P3 := hide (fun W h => print_dec W (t) (by omega) h)
  unfold SWPost at P3
  rw [← e_st] at P3
  have E3 := hide e_st
  have Z3 := hide (show st.size ≤ 100000 by rw [e_st]; exact decS_size _ (by omega))
  have V3 := hide (show IntKind.u64.wrap ((t : Nat) : Int) = ((t : Nat) : Int) by rw [IntKind.wrap_u64]; omega)
  clear e_st
  obtain ⟨sd, e_sd⟩ : ∃ S : ByteArray, S = decS (d) := ⟨_, rfl⟩
  have P4 := hide (fun W h => print_dec W (d) (by omega) h)
  unfold SWPost at P4
  rw [← e_sd] at P4
  have E4 := hide e_sd
  have Z4 := hide (show sd.size ≤ 100000 by rw [e_sd]; exact decS_size _ (by omega))
  have V4 := hide (show IntKind.u64.wrap ((d : Nat) : Int) = ((d : Nat) : Int) by rw [IntKind.wrap_u64]; omega)
  clear e_sd
  obtain ⟨ss, e_ss⟩ : ∃ S : ByteArray, S = decS (s) := ⟨_, rfl⟩
  have P5 := hide (fun W h => print_dec W (s) (by omega) h)
  unfold SWPost at P5
  rw [← e_ss] at P5
  have E5 := hide e_ss
  have Z5 := hide (show ss.size ≤ 100000 by rw [e_ss]; exact decS_size _ (by omega))
  have V5 := hide (show IntKind.u64.wrap ((s : Nat) : Int) = ((s : Nat) : Int) by rw [IntKind.wrap_u64]; omega)
  clear e_ss
  obtain ⟨sr, e_sr⟩ : ∃ S : ByteArray, S = decS (r) := ⟨_, rfl⟩
  have P6 := hide (fun W h => print_dec W (r) (by omega) h)
  unfold SWPost at P6
  rw [← e_sr] at P6
  have E6 := hide e_sr
  have Z6 := hide (show sr.size ≤ 100000 by rw [e_sr]; exact decS_size _ (by omega))
  have V6 := hide (show IntKind.u64.wrap ((r : Nat) : Int) = ((r : Nat) : Int) by rw [IntKind.wrap_u64]; omega)
  clear e_sr
  obtain ⟨sc, e_sc⟩ : ∃ S : ByteArray, S = decS (c) := ⟨_, rfl⟩
  have P7 := hide (fun W h => print_dec W (c) (by omega) h)
  unfold SWPost at P7
  rw [← e_sc] at P7
  have E7 := hide e_sc
  have Z7 := hide (show sc.size ≤ 100000 by rw [e_sc]; exact decS_size _ (by omega))
  clear e_sc
  obtain ⟨sx, e_sx⟩ : ∃ S : ByteArray, S = sealW x10 := ⟨_, rfl⟩
  have P8 := hide (fun W h => sealed_any W x10 hx10 h)
  unfold SWPost at P8
  rw [← e_sx] at P8
  have E8 := hide e_sx
  have Z8 := hide (show sx.size ≤ 100000 by rw [e_sx]; exact sealW_size _)
  clear e_sx
  obtain ⟨sn, e_sn⟩ : ∃ S : ByteArray, S = decS (l.length) := ⟨_, rfl⟩
  have P9 := hide (fun W h => print_dec W (l.length) (by omega) h)
  unfold SWPost at P9
  rw [← e_sn] at P9
  have E9 := hide e_sn
  have Z9 := hide (show sn.size ≤ 100000 by rw [e_sn]; exact decS_size _ (by omega))
  have V9 := hide (show IntKind.u64.wrap ((l.length : Nat) : Int) = ((l.length : Nat) : Int) by rw [IntKind.wrap_u64]; omega)
  clear e_sn
  have HT := hide htab
  have HO := hide ((Only.refl [] w).alloc (.cells #[.int .i64 (f : Nat), .int .i64 (t : Nat), .slice A l.length cap, .int .i64 (d : Nat)] 46))
  have HB := hide (Blk.new w 46 #[.int .i64 (f : Nat), .int .i64 (t : Nat), .slice A l.length cap, .int .i64 (d : Nat)])
  have h1 : ¬ (i : Int) < 0 := by omega
  have h2 : ¬ (f : Int) < 0 := by omega
  have h3 : ¬ (t : Int) < 0 := by omega
  have h4 : ¬ (d : Int) < 0 := by omega
  clear htab hi hf ht hd hs32 hr32 hc64 hx10 hF
  go_enter Tryd.func20, Tryd.ntmps20
  go_upto_region 1 with fail
  generalize (w.alloc (.cells #[.int .i64 (f : Nat), .int .i64 (t : Nat), .slice A l.length cap, .int .i64 (d : Nat)] 46)) = v0 at *
  have c0 := HB.out.cell 0; have c1 := HB.out.cell 1; have c3 := HB.out.cell 3; simp at c0 c1 c3
  go_upto_region 3 with fail
  clear c0 c1 c3 h1 h2 h3 h4
  refine wp_region_held_drew (S := fun W => Only [] v0 W) (by kernel_rfl) (by exact (Only.refl [] v0).drew) (fun hHeld => ?_)
  generalize v0.drew = wd3 at *
  refine wpAnyH_take (i := 0) (v := ?_) rfl (by kernel_rfl) (by kernel_rfl) (by kernel_rfl) (fun _ _ _ h => h) (Or.inl ⟨by rfl, ?_⟩) (by assumption) ?_
  rotate_left
  · (intro w hSw; (try dsimp only at hSw); go_simp; try with_reducible rfl)
  try simp only [List.getElem_toArray, List.getElem_cons_succ, List.getElem_cons_zero, Act.put, List.setIfInBounds_toArray, List.set_cons_zero, List.set_cons_succ]
  refine wpAnyH_take (i := 1) (v := ?_) rfl (by kernel_rfl) (by kernel_rfl) (by kernel_rfl) (fun _ _ _ h => h) (Or.inl ⟨by rfl, ?_⟩) (by assumption) ?_
  rotate_left
  · (intro w hSw; (try dsimp only at hSw); have hcv := V1.out; go_simp; try with_reducible rfl)
  try simp only [List.getElem_toArray, List.getElem_cons_succ, List.getElem_cons_zero, Act.put, List.setIfInBounds_toArray, List.set_cons_zero, List.set_cons_succ]
  refine wpAnyH_take (i := 3) (v := ?_) rfl (by kernel_rfl) (by kernel_rfl) (by kernel_rfl) (fun _ _ _ h => h) (Or.inl ⟨by rfl, ?_⟩) (by assumption) ?_
  rotate_left
  · (intro w hSw; (try dsimp only at hSw); go_simp; try with_reducible rfl)
  try simp only [List.getElem_toArray, List.getElem_cons_succ, List.getElem_cons_zero, Act.put, List.setIfInBounds_toArray, List.set_cons_zero, List.set_cons_succ]
  refine wpAnyH_take (i := 4) (v := ?_) rfl (by kernel_rfl) (by kernel_rfl) (by kernel_rfl) (fun _ _ _ h => h) (Or.inl ⟨by rfl, ?_⟩) (by assumption) ?_
  rotate_left
  · (intro w hSw; (try dsimp only at hSw); have HBw := HB.out.only hSw (by simp); have c0 := HBw.cell 0; simp at c0; clear HBw; go_simp; try with_reducible rfl)
  try simp only [List.getElem_toArray, List.getElem_cons_succ, List.getElem_cons_zero, Act.put, List.setIfInBounds_toArray, List.set_cons_zero, List.set_cons_succ]
  refine wpAnyH_take (i := 5) (v := ?_) rfl (by kernel_rfl) (by kernel_rfl) (by kernel_rfl) (fun _ _ _ h => h) (Or.inl ⟨by rfl, ?_⟩) (by assumption) ?_
  rotate_left
  · (intro w hSw; (try dsimp only at hSw); have hcv := V2.out; go_simp; try with_reducible rfl)
  try simp only [List.getElem_toArray, List.getElem_cons_succ, List.getElem_cons_zero, Act.put, List.setIfInBounds_toArray, List.set_cons_zero, List.set_cons_succ]
  refine wpAnyH_take (i := 7) (v := ?_) rfl (by kernel_rfl) (by kernel_rfl) (by kernel_rfl) (fun _ _ _ h => h) (Or.inl ⟨by rfl, ?_⟩) (by assumption) ?_
  rotate_left
  · (intro w hSw; (try dsimp only at hSw); go_simp; try with_reducible rfl)
  try simp only [List.getElem_toArray, List.getElem_cons_succ, List.getElem_cons_zero, Act.put, List.setIfInBounds_toArray, List.set_cons_zero, List.set_cons_succ]
  refine wpAnyH_take (i := 8) (v := ?_) rfl (by kernel_rfl) (by kernel_rfl) (by kernel_rfl) (fun _ _ _ h => h) (Or.inl ⟨by rfl, ?_⟩) (by assumption) ?_
  rotate_left
  · (intro w hSw; (try dsimp only at hSw); have HBw := HB.out.only hSw (by simp); have c1 := HBw.cell 1; simp at c1; clear HBw; go_simp; try with_reducible rfl)
  try simp only [List.getElem_toArray, List.getElem_cons_succ, List.getElem_cons_zero, Act.put, List.setIfInBounds_toArray, List.set_cons_zero, List.set_cons_succ]
  refine wpAnyH_take (i := 9) (v := ?_) rfl (by kernel_rfl) (by kernel_rfl) (by kernel_rfl) (fun _ _ _ h => h) (Or.inl ⟨by rfl, ?_⟩) (by assumption) ?_
  rotate_left
  · (intro w hSw; (try dsimp only at hSw); have hcv := V3.out; go_simp; try with_reducible rfl)
  try simp only [List.getElem_toArray, List.getElem_cons_succ, List.getElem_cons_zero, Act.put, List.setIfInBounds_toArray, List.set_cons_zero, List.set_cons_succ]
  refine wpAnyH_take (i := 11) (v := ?_) rfl (by kernel_rfl) (by kernel_rfl) (by kernel_rfl) (fun _ _ _ h => h) (Or.inl ⟨by rfl, ?_⟩) (by assumption) ?_
  rotate_left
  · (intro w hSw; (try dsimp only at hSw); go_simp; try with_reducible rfl)
  try simp only [List.getElem_toArray, List.getElem_cons_succ, List.getElem_cons_zero, Act.put, List.setIfInBounds_toArray, List.set_cons_zero, List.set_cons_succ]
  refine wpAnyH_take (i := 12) (v := ?_) rfl (by kernel_rfl) (by kernel_rfl) (by kernel_rfl) (fun _ _ _ h => h) (Or.inl ⟨by rfl, ?_⟩) (by assumption) ?_
  rotate_left
  · (intro w hSw; (try dsimp only at hSw); have HBw := HB.out.only hSw (by simp); have c3 := HBw.cell 3; simp at c3; clear HBw; go_simp; try with_reducible rfl)
  try simp only [List.getElem_toArray, List.getElem_cons_succ, List.getElem_cons_zero, Act.put, List.setIfInBounds_toArray, List.set_cons_zero, List.set_cons_succ]
  refine wpAnyH_take (i := 13) (v := ?_) rfl (by kernel_rfl) (by kernel_rfl) (by kernel_rfl) (fun _ _ _ h => h) (Or.inl ⟨by rfl, ?_⟩) (by assumption) ?_
  rotate_left
  · (intro w hSw; (try dsimp only at hSw); have hcv := V4.out; go_simp; try with_reducible rfl)
  try simp only [List.getElem_toArray, List.getElem_cons_succ, List.getElem_cons_zero, Act.put, List.setIfInBounds_toArray, List.set_cons_zero, List.set_cons_succ]
  refine wpAnyH_ready (rs := [2]) (by kernel_rfl) (by simp) ?_
  refine (AllReadyH.cons rfl (fun K hK => ?_) AllReadyH.nil)
  go_simp
  (go_at_call 33; (with_reducible refine (P1.out _ (HT.out.only (HO.out.trans hHeld) (by simp))).mono ?_); rintro e2 w2 ⟨rfl, ho⟩)
  refine hK.out _ _ (by first | exact hHeld.trans ho | exact hHeld.trans (ho.mono (by simp))) (fun hHeldN => ?_)
  clear hK K ho hHeld
  have hHeld := hHeldN
  clear hHeldN
  try simp only [List.getElem_toArray, List.getElem_cons_succ, List.getElem_cons_zero, Act.put, List.setIfInBounds_toArray, List.set_cons_zero, List.set_cons_succ]
  refine wpAnyH_ready (rs := [6]) (by kernel_rfl) (by simp) ?_
  refine (AllReadyH.cons rfl (fun K hK => ?_) AllReadyH.nil)
  go_simp
  (go_at_call 33; (with_reducible refine (P2.out _ (HT.out.only (HO.out.trans hHeld) (by simp))).mono ?_); rintro e2 w6 ⟨rfl, ho⟩)
  refine hK.out _ _ (by first | exact hHeld.trans ho | exact hHeld.trans (ho.mono (by simp))) (fun hHeldN => ?_)
  clear hK K ho hHeld
  have hHeld := hHeldN
  clear hHeldN
  try simp only [List.getElem_toArray, List.getElem_cons_succ, List.getElem_cons_zero, Act.put, List.setIfInBounds_toArray, List.set_cons_zero, List.set_cons_succ]
  refine wpAnyH_ready (rs := [10]) (by kernel_rfl) (by simp) ?_
  refine (AllReadyH.cons rfl (fun K hK => ?_) AllReadyH.nil)
  go_simp
  (go_at_call 33; (with_reducible refine (P3.out _ (HT.out.only (HO.out.trans hHeld) (by simp))).mono ?_); rintro e2 w10 ⟨rfl, ho⟩)
  refine hK.out _ _ (by first | exact hHeld.trans ho | exact hHeld.trans (ho.mono (by simp))) (fun hHeldN => ?_)
  clear hK K ho hHeld
  have hHeld := hHeldN
  clear hHeldN
  try simp only [List.getElem_toArray, List.getElem_cons_succ, List.getElem_cons_zero, Act.put, List.setIfInBounds_toArray, List.set_cons_zero, List.set_cons_succ]
  refine wpAnyH_ready (rs := [14]) (by kernel_rfl) (by simp) ?_
  refine (AllReadyH.cons rfl (fun K hK => ?_) AllReadyH.nil)
  go_simp
  (go_at_call 33; (with_reducible refine (P4.out _ (HT.out.only (HO.out.trans hHeld) (by simp))).mono ?_); rintro e2 w14 ⟨rfl, ho⟩)
  refine hK.out _ _ (by first | exact hHeld.trans ho | exact hHeld.trans (ho.mono (by simp))) (fun hHeldN => ?_)
  clear hK K ho hHeld
  have hHeld := hHeldN
  clear hHeldN
  try simp only [List.getElem_toArray, List.getElem_cons_succ, List.getElem_cons_zero, Act.put, List.setIfInBounds_toArray, List.set_cons_zero, List.set_cons_succ]
  refine wpAnyH_ready (rs := [15]) (by kernel_rfl) (by simp) ?_
  refine (AllReadyH.cons rfl (fun K hK => ?_) AllReadyH.nil)
  go_simp
  have HWG := hide (Nat.le_trans HO.out.size hHeld.size)
  refine hK.out _ _ (by exact hHeld.alloc _) (fun hHeldN => ?_)
  clear hK K hHeld
  have hHeld := hHeldN
  clear hHeldN
  try simp only [List.getElem_toArray, List.getElem_cons_succ, List.getElem_cons_zero, Act.put, List.setIfInBounds_toArray, List.set_cons_zero, List.set_cons_succ]
  have HWB := hide (Blk.new w14 9 #[.string si, .string sf, .string st, .string sd])
  obtain ⟨W0, hW0⟩ : ∃ g, g = w14.heap.size := ⟨_, rfl⟩
  rw [← hW0] at HWB HWG ⊢
  clear hW0
  generalize (w14.alloc (.cells #[.string si, .string sf, .string st, .string sd] 9)) = w15 at *
  refine wpAnyH_take (i := 16) (v := ?_) rfl (by kernel_rfl) (by kernel_rfl) (by kernel_rfl) (fun _ _ _ h => h) (Or.inl ⟨by rfl, ?_⟩) (by assumption) ?_
  rotate_left
  · (intro w hSw; (try dsimp only at hSw); go_simp; try with_reducible rfl)
  try simp only [List.getElem_toArray, List.getElem_cons_succ, List.getElem_cons_zero, Act.put, List.setIfInBounds_toArray, List.set_cons_zero, List.set_cons_succ]
  refine wpAnyH_done (by kernel_rfl) ?_ _
  replace HO := hide (HO.out.trans hHeld)
  have HB1 := hide (HB.out.only hHeld (by simp))
  clear hHeld
  rename World => v1
  have c2 := HB1.out.cell 2; simp at c2
  go_upto_region 5 with (go_at_call 42; (with_reducible refine (KO.out _ (HRD.out.only HO.out (by simp))).mono ?_); rintro e2 v2 ⟨rfl, ho⟩; replace HO := hide (HO.out.trans ho); replace HB1 := hide (HB1.out.only ho (by simp)); replace HWB := hide (HWB.out.only ho (by simp)); clear ho c2)
  replace HWB := hide (HWB.out.alloc (.cells #[.int .i64 k, .int .u32 (s : Nat), .int .u32 (r : Nat), .int .u64 (c : Nat), .string x4, .string x5, .string x6, .string x7, .string x8, .string x9, .string x10, .string x11, .string x12] 78))
  replace HB1 := hide (HB1.out.alloc (.cells #[.int .i64 k, .int .u32 (s : Nat), .int .u32 (r : Nat), .int .u64 (c : Nat), .string x4, .string x5, .string x6, .string x7, .string x8, .string x9, .string x10, .string x11, .string x12] 78))
  replace HO := hide (HO.out.alloc (.cells #[.int .i64 k, .int .u32 (s : Nat), .int .u32 (r : Nat), .int .u64 (c : Nat), .string x4, .string x5, .string x6, .string x7, .string x8, .string x9, .string x10, .string x11, .string x12] 78))
  have HMB := hide (Blk.new v2 78 #[.int .i64 k, .int .u32 (s : Nat), .int .u32 (r : Nat), .int .u64 (c : Nat), .string x4, .string x5, .string x6, .string x7, .string x8, .string x9, .string x10, .string x11, .string x12])
  obtain ⟨M, hM⟩ : ∃ M, M = v2.heap.size := ⟨_, rfl⟩
  rw [← hM] at HMB ⊢
  clear hM
  generalize (v2.alloc (.cells #[.int .i64 k, .int .u32 (s : Nat), .int .u32 (r : Nat), .int .u64 (c : Nat), .string x4, .string x5, .string x6, .string x7, .string x8, .string x9, .string x10, .string x11, .string x12] 78)) = v3 at *
  refine wp_region_held_drew (S := fun W => Only [] v3 W) (by kernel_rfl) (by exact (Only.refl [] v3).drew) (fun hHeld => ?_)
  generalize v3.drew = wd5 at *
  refine wpAnyH_take (i := 0) (v := ?_) rfl (by kernel_rfl) (by kernel_rfl) (by kernel_rfl) (fun _ _ _ h => h) (Or.inl ⟨by rfl, ?_⟩) (by assumption) ?_
  rotate_left
  · (intro w hSw; (try dsimp only at hSw); go_simp; try with_reducible rfl)
  try simp only [List.getElem_toArray, List.getElem_cons_succ, List.getElem_cons_zero, Act.put, List.setIfInBounds_toArray, List.set_cons_zero, List.set_cons_succ]
  refine wpAnyH_take (i := 1) (v := ?_) rfl (by kernel_rfl) (by kernel_rfl) (by kernel_rfl) (fun _ _ _ h => h) (Or.inl ⟨by rfl, ?_⟩) (by assumption) ?_
  rotate_left
  · (intro w hSw; (try dsimp only at hSw); have HMw := HMB.out.only hSw (by simp); have m1 := HMw.cell 1; simp at m1; clear HMw; go_simp; try with_reducible rfl)
  try simp only [List.getElem_toArray, List.getElem_cons_succ, List.getElem_cons_zero, Act.put, List.setIfInBounds_toArray, List.set_cons_zero, List.set_cons_succ]
  refine wpAnyH_take (i := 2) (v := ?_) rfl (by kernel_rfl) (by kernel_rfl) (by kernel_rfl) (fun _ _ _ h => h) (Or.inl ⟨by rfl, ?_⟩) (by assumption) ?_
  rotate_left
  · (intro w hSw; (try dsimp only at hSw); have hcv := V5.out; go_simp; try with_reducible rfl)
  try simp only [List.getElem_toArray, List.getElem_cons_succ, List.getElem_cons_zero, Act.put, List.setIfInBounds_toArray, List.set_cons_zero, List.set_cons_succ]
  refine wpAnyH_take (i := 4) (v := ?_) rfl (by kernel_rfl) (by kernel_rfl) (by kernel_rfl) (fun _ _ _ h => h) (Or.inl ⟨by rfl, ?_⟩) (by assumption) ?_
  rotate_left
  · (intro w hSw; (try dsimp only at hSw); go_simp; try with_reducible rfl)
  try simp only [List.getElem_toArray, List.getElem_cons_succ, List.getElem_cons_zero, Act.put, List.setIfInBounds_toArray, List.set_cons_zero, List.set_cons_succ]
  refine wpAnyH_take (i := 5) (v := ?_) rfl (by kernel_rfl) (by kernel_rfl) (by kernel_rfl) (fun _ _ _ h => h) (Or.inl ⟨by rfl, ?_⟩) (by assumption) ?_
  rotate_left
  · (intro w hSw; (try dsimp only at hSw); have HMw := HMB.out.only hSw (by simp); have m2 := HMw.cell 2; simp at m2; clear HMw; go_simp; try with_reducible rfl)
  try simp only [List.getElem_toArray, List.getElem_cons_succ, List.getElem_cons_zero, Act.put, List.setIfInBounds_toArray, List.set_cons_zero, List.set_cons_succ]
  refine wpAnyH_take (i := 6) (v := ?_) rfl (by kernel_rfl) (by kernel_rfl) (by kernel_rfl) (fun _ _ _ h => h) (Or.inl ⟨by rfl, ?_⟩) (by assumption) ?_
  rotate_left
  · (intro w hSw; (try dsimp only at hSw); have hcv := V6.out; go_simp; try with_reducible rfl)
  try simp only [List.getElem_toArray, List.getElem_cons_succ, List.getElem_cons_zero, Act.put, List.setIfInBounds_toArray, List.set_cons_zero, List.set_cons_succ]
  refine wpAnyH_ready (rs := [3]) (by kernel_rfl) (by simp) ?_
  refine (AllReadyH.cons rfl (fun K hK => ?_) AllReadyH.nil)
  go_simp
  (go_at_call 33; (with_reducible refine (P5.out _ (HT.out.only (HO.out.trans hHeld) (by simp))).mono ?_); rintro e2 w3 ⟨rfl, ho⟩)
  refine hK.out _ _ (by first | exact hHeld.trans ho | exact hHeld.trans (ho.mono (by simp))) (fun hHeldN => ?_)
  clear hK K ho hHeld
  have hHeld := hHeldN
  clear hHeldN
  try simp only [List.getElem_toArray, List.getElem_cons_succ, List.getElem_cons_zero, Act.put, List.setIfInBounds_toArray, List.set_cons_zero, List.set_cons_succ]
  refine wpAnyH_ready (rs := [7]) (by kernel_rfl) (by simp) ?_
  refine (AllReadyH.cons rfl (fun K hK => ?_) AllReadyH.nil)
  go_simp
  (go_at_call 33; (with_reducible refine (P6.out _ (HT.out.only (HO.out.trans hHeld) (by simp))).mono ?_); rintro e2 w7 ⟨rfl, ho⟩)
  refine hK.out _ _ (by first | exact hHeld.trans ho | exact hHeld.trans (ho.mono (by simp))) (fun hHeldN => ?_)
  clear hK K ho hHeld
  have hHeld := hHeldN
  clear hHeldN
  try simp only [List.getElem_toArray, List.getElem_cons_succ, List.getElem_cons_zero, Act.put, List.setIfInBounds_toArray, List.set_cons_zero, List.set_cons_succ]
  refine wpAnyH_take (i := 8) (v := ?_) rfl (by kernel_rfl) (by kernel_rfl) (by kernel_rfl) (fun _ _ _ h => h) (Or.inl ⟨by rfl, ?_⟩) (by assumption) ?_
  rotate_left
  · (intro w hSw; (try dsimp only at hSw); go_simp; try with_reducible rfl)
  try simp only [List.getElem_toArray, List.getElem_cons_succ, List.getElem_cons_zero, Act.put, List.setIfInBounds_toArray, List.set_cons_zero, List.set_cons_succ]
  refine wpAnyH_take (i := 9) (v := ?_) rfl (by kernel_rfl) (by kernel_rfl) (by kernel_rfl) (fun _ _ _ h => h) (Or.inl ⟨by rfl, ?_⟩) (by assumption) ?_
  rotate_left
  · (intro w hSw; (try dsimp only at hSw); go_simp; try with_reducible rfl)
  try simp only [List.getElem_toArray, List.getElem_cons_succ, List.getElem_cons_zero, Act.put, List.setIfInBounds_toArray, List.set_cons_zero, List.set_cons_succ]
  refine wpAnyH_done (by kernel_rfl) ?_ _
  replace HO := hide (HO.out.trans hHeld)
  replace HB1 := hide (HB1.out.only hHeld (by simp))
  replace HWB := hide (HWB.out.only hHeld (by simp))
  replace HMB := hide (HMB.out.only hHeld (by simp))
  clear hHeld
  rename World => v4
  have HOW := hide (own_four24 HWB.out)
  have HOZ := hide (Only.refl [] v4)
  have HWS := hide (show W0 ≤ v4.heap.size from Nat.le_of_lt HWB.out.lt)
  have HMW := hide (show ¬ M = W0 from HMB.out.ne_ HWB.out (by decide))
  have HDW := hide (show ¬ w.heap.size = W0 from HB1.out.ne_ HWB.out (by decide))
  by_cases hk : kk = 1
  · have q1 : (kk == 1) = true := by rw [beq_iff_eq]; exact hk
    have HV := hide (show joinW (wordsW i f t d cd ⟨k, s, r, c, x4, x5, x6, x7, x8, x9, x10, x11, x12⟩ l.length) = joinW [si, sf, st, sd, ⟨#[105, 110, 105, 116]⟩, ss] by unfold wordsW; rw [HTW.out.1 hk, E1.out, E2.out, E3.out, E4.out, E5.out]; rfl)
    clear hk
    go_wp2_with (first
      | (at_builtin; refine wpList_str_append rfl (.tmp 69) (.tmp 71) rfl W0 _ [si, sf, st, sd] [⟨#[105, 110, 105, 116]⟩, ss] rfl _ rfl rfl HOW.out (by simp) (by simp) (by have := HWS.out; have := HOZ.out.size; omega) rfl ?_; intro v6 w6 g1 g2; have HO6 := hide (g2 [] w HO.out (fun q hq => .inr (by have := HWG.out; omega))); have HOW6 := hide g1; clear g1 g2; obtain ⟨A6, c6, rfl, _, _⟩ := own_form HOW6.out)
      | (go_at_call 44; refine (join_own _ W0 A6 c6 [si, sf, st, sd, ⟨#[105, 110, 105, 116]⟩, ss] HOW6.out (by simp) (by simp) (List.forall_mem_cons.2 ⟨Z1.out, (List.forall_mem_cons.2 ⟨Z2.out, (List.forall_mem_cons.2 ⟨Z3.out, (List.forall_mem_cons.2 ⟨Z4.out, (List.forall_mem_cons.2 ⟨(by decide), (List.forall_mem_cons.2 ⟨Z5.out, (fun _ h => by cases h)⟩)⟩)⟩)⟩)⟩)⟩)).mono ?_; rintro e7 w7 ⟨rfl, ho⟩; replace HO6 := hide (HO6.out.trans ho); clear ho))
    go_ret2
    exact lpost HV.out HO6.out
  · have hk1 := hk
    have q1 : (kk == 1) = false := by rw [beq_eq_false_iff_ne]; exact hk1
    clear hk
    by_cases hk : kk = 2
    · have q2 : (kk == 2) = true := by rw [beq_iff_eq]; exact hk
      have HV := hide (show joinW (wordsW i f t d cd ⟨k, s, r, c, x4, x5, x6, x7, x8, x9, x10, x11, x12⟩ l.length) = joinW [si, sf, st, sd, ⟨#[114, 101, 115, 112, 111, 110, 115, 101]⟩, ss, sr] by unfold wordsW; rw [HTW.out.2.1 hk, E1.out, E2.out, E3.out, E4.out, E5.out, E6.out]; rfl)
      clear hk
      go_wp2_with (first
      | (at_builtin; refine wpList_str_append rfl (.tmp 75) (.tmp 78) rfl W0 _ [si, sf, st, sd] [⟨#[114, 101, 115, 112, 111, 110, 115, 101]⟩, ss, sr] rfl _ rfl rfl HOW.out (by simp) (by simp) (by have := HWS.out; have := HOZ.out.size; omega) rfl ?_; intro v6 w6 g1 g2; have HO6 := hide (g2 [] w HO.out (fun q hq => .inr (by have := HWG.out; omega))); have HOW6 := hide g1; clear g1 g2; obtain ⟨A6, c6, rfl, _, _⟩ := own_form HOW6.out)
      | (go_at_call 44; refine (join_own _ W0 A6 c6 [si, sf, st, sd, ⟨#[114, 101, 115, 112, 111, 110, 115, 101]⟩, ss, sr] HOW6.out (by simp) (by simp) (List.forall_mem_cons.2 ⟨Z1.out, (List.forall_mem_cons.2 ⟨Z2.out, (List.forall_mem_cons.2 ⟨Z3.out, (List.forall_mem_cons.2 ⟨Z4.out, (List.forall_mem_cons.2 ⟨(by decide), (List.forall_mem_cons.2 ⟨Z5.out, (List.forall_mem_cons.2 ⟨Z6.out, (fun _ h => by cases h)⟩)⟩)⟩)⟩)⟩)⟩)⟩)).mono ?_; rintro e7 w7 ⟨rfl, ho⟩; replace HO6 := hide (HO6.out.trans ho); clear ho))
      go_ret2
      exact lpost HV.out HO6.out
    · have hk2 := hk
      have q2 : (kk == 2) = false := by rw [beq_eq_false_iff_ne]; exact hk2
      clear hk
      by_cases hk : kk = 3
      · have q3 : (kk == 3) = true := by rw [beq_iff_eq]; exact hk
        have HV := hide (show joinW (wordsW i f t d cd ⟨k, s, r, c, x4, x5, x6, x7, x8, x9, x10, x11, x12⟩ l.length) = joinW [si, sf, st, sd, ⟨#[99, 111, 111, 107, 105, 101]⟩, sr] by unfold wordsW; rw [HTW.out.2.2.1 hk, E1.out, E2.out, E3.out, E4.out, E6.out]; rfl)
        clear hk
        go_wp2_with (first
      | (at_builtin; refine wpList_str_append rfl (.tmp 82) (.tmp 84) rfl W0 _ [si, sf, st, sd] [⟨#[99, 111, 111, 107, 105, 101]⟩, sr] rfl _ rfl rfl HOW.out (by simp) (by simp) (by have := HWS.out; have := HOZ.out.size; omega) rfl ?_; intro v6 w6 g1 g2; have HO6 := hide (g2 [] w HO.out (fun q hq => .inr (by have := HWG.out; omega))); have HOW6 := hide g1; clear g1 g2; obtain ⟨A6, c6, rfl, _, _⟩ := own_form HOW6.out)
      | (go_at_call 44; refine (join_own _ W0 A6 c6 [si, sf, st, sd, ⟨#[99, 111, 111, 107, 105, 101]⟩, sr] HOW6.out (by simp) (by simp) (List.forall_mem_cons.2 ⟨Z1.out, (List.forall_mem_cons.2 ⟨Z2.out, (List.forall_mem_cons.2 ⟨Z3.out, (List.forall_mem_cons.2 ⟨Z4.out, (List.forall_mem_cons.2 ⟨(by decide), (List.forall_mem_cons.2 ⟨Z6.out, (fun _ h => by cases h)⟩)⟩)⟩)⟩)⟩)⟩)).mono ?_; rintro e7 w7 ⟨rfl, ho⟩; replace HO6 := hide (HO6.out.trans ho); clear ho))
        go_ret2
        exact lpost HV.out HO6.out
      · have hk3 := hk
        have q3 : (kk == 3) = false := by rw [beq_eq_false_iff_ne]; exact hk3
        clear hk
        by_cases hk : kk = 4
        · have q4 : (kk == 4) = true := by rw [beq_iff_eq]; exact hk
          have HV := hide (show joinW (wordsW i f t d cd ⟨k, s, r, c, x4, x5, x6, x7, x8, x9, x10, x11, x12⟩ l.length) = joinW [si, sf, st, sd, ⟨#[100, 97, 116, 97]⟩, sr, sc, sx] by unfold wordsW; rw [HTW.out.2.2.2.1 hk, E1.out, E2.out, E3.out, E4.out, E6.out, E7.out, E8.out]; rfl)
          clear hk
          go_upto_region 15 with fail
          replace HWB := hide (show Blk v4.drew W0 9 #[.string si, .string sf, .string st, .string sd] from HWB.out)
          refine wp_region_held_drew (S := fun W => Only [W0] v4 W) (by kernel_rfl) (by exact (Only.refl [W0] v4).drew) (fun hHeld => ?_)
          generalize v4.drew = wd15 at *
          refine wpAnyH_take (i := 0) (v := ?_) rfl (by kernel_rfl) (by kernel_rfl) (by kernel_rfl) (fun _ _ _ h => h) (Or.inl ⟨by rfl, ?_⟩) (by assumption) ?_
          rotate_left
          · (intro w hSw; (try dsimp only at hSw); go_simp; try with_reducible rfl)
          try simp only [List.getElem_toArray, List.getElem_cons_succ, List.getElem_cons_zero, Act.put, List.setIfInBounds_toArray, List.set_cons_zero, List.set_cons_succ]
          refine wpAnyH_take (i := 1) (v := ?_) rfl (by kernel_rfl) (by kernel_rfl) (by kernel_rfl) (fun _ _ _ h => h) (Or.inl ⟨by rfl, ?_⟩) (by assumption) ?_
          rotate_left
          · (intro w hSw; (try dsimp only at hSw); go_simp; try with_reducible rfl)
          try simp only [List.getElem_toArray, List.getElem_cons_succ, List.getElem_cons_zero, Act.put, List.setIfInBounds_toArray, List.set_cons_zero, List.set_cons_succ]
          refine wpAnyH_take (i := 2) (v := ?_) rfl (by kernel_rfl) (by kernel_rfl) (by kernel_rfl) (fun _ _ _ h => h) (Or.inl ⟨by rfl, ?_⟩) (by assumption) ?_
          rotate_left
          · (intro w hSw; (try dsimp only at hSw); go_simp; try with_reducible rfl)
          try simp only [List.getElem_toArray, List.getElem_cons_succ, List.getElem_cons_zero, Act.put, List.setIfInBounds_toArray, List.set_cons_zero, List.set_cons_succ]
          refine wpAnyH_take (i := 3) (v := ?_) rfl (by kernel_rfl) (by kernel_rfl) (by kernel_rfl) (fun _ _ _ h => h) (Or.inl ⟨by rfl, ?_⟩) (by assumption) ?_
          rotate_left
          · (intro w hSw; (try dsimp only at hSw); have HMw := HMB.out.only hSw (by simp [HMW.out]); have m3 := HMw.cell 3; simp at m3; clear HMw; go_simp; try with_reducible rfl)
          try simp only [List.getElem_toArray, List.getElem_cons_succ, List.getElem_cons_zero, Act.put, List.setIfInBounds_toArray, List.set_cons_zero, List.set_cons_succ]
          refine wpAnyH_take (i := 5) (v := ?_) rfl (by kernel_rfl) (by kernel_rfl) (by kernel_rfl) (fun _ _ _ h => h) (Or.inl ⟨by rfl, ?_⟩) (by assumption) ?_
          rotate_left
          · (intro w hSw; (try dsimp only at hSw); go_simp; try with_reducible rfl)
          try simp only [List.getElem_toArray, List.getElem_cons_succ, List.getElem_cons_zero, Act.put, List.setIfInBounds_toArray, List.set_cons_zero, List.set_cons_succ]
          refine wpAnyH_take (i := 6) (v := ?_) rfl (by kernel_rfl) (by kernel_rfl) (by kernel_rfl) (fun _ _ _ h => h) (Or.inl ⟨by rfl, ?_⟩) (by assumption) ?_
          rotate_left
          · (intro w hSw; (try dsimp only at hSw); have HMw := HMB.out.only hSw (by simp [HMW.out]); have m10 := HMw.cell 10; simp at m10; clear HMw; go_simp; try with_reducible rfl)
          try simp only [List.getElem_toArray, List.getElem_cons_succ, List.getElem_cons_zero, Act.put, List.setIfInBounds_toArray, List.set_cons_zero, List.set_cons_succ]
          refine wpAnyH_ready (rs := [4]) (by kernel_rfl) (by simp) ?_
          refine (AllReadyH.cons rfl (fun K hK => ?_) AllReadyH.nil)
          go_simp
          (go_at_call 33; (with_reducible refine (P7.out _ (HT.out.only (only_in HO.out hHeld HWG.out) (by simp))).mono ?_); rintro e2 w4 ⟨rfl, ho⟩; replace HWB := hide (HWB.out.only ho (by simp)))
          refine hK.out _ _ (by first | exact hHeld.trans ho | exact hHeld.trans (ho.mono (by simp))) (fun hHeldN => ?_)
          clear hK K ho hHeld
          have hHeld := hHeldN
          clear hHeldN
          try simp only [List.getElem_toArray, List.getElem_cons_succ, List.getElem_cons_zero, Act.put, List.setIfInBounds_toArray, List.set_cons_zero, List.set_cons_succ]
          refine wpAnyH_ready (rs := [7]) (by kernel_rfl) (by simp) ?_
          refine (AllReadyH.cons rfl (fun K hK => ?_) AllReadyH.nil)
          go_simp
          (go_at_call 43; (with_reducible refine (P8.out _ (HT.out.only (only_in HO.out hHeld HWG.out) (by simp))).mono ?_); rintro e2 w7 ⟨rfl, ho⟩; replace HWB := hide (HWB.out.only ho (by simp)))
          refine hK.out _ _ (by first | exact hHeld.trans ho | exact hHeld.trans (ho.mono (by simp))) (fun hHeldN => ?_)
          clear hK K ho hHeld
          have hHeld := hHeldN
          clear hHeldN
          try simp only [List.getElem_toArray, List.getElem_cons_succ, List.getElem_cons_zero, Act.put, List.setIfInBounds_toArray, List.set_cons_zero, List.set_cons_succ]
          refine wpAnyH_ready (rs := [8]) (by kernel_rfl) (by simp) ?_
          refine (AllReadyH.cons rfl (fun K hK => ?_) AllReadyH.nil)
          go_simp
          refine hK.out _ _ (by exact hHeld.alloc _) (fun hHeldN => ?_)
          clear hK K hHeld
          have hHeld := hHeldN
          clear hHeldN
          try simp only [List.getElem_toArray, List.getElem_cons_succ, List.getElem_cons_zero, Act.put, List.setIfInBounds_toArray, List.set_cons_zero, List.set_cons_succ]
          have HNB := hide (Blk.new w7 9 #[.string ⟨#[100, 97, 116, 97]⟩, .string sr, .string sc, .string sx])
          have HWB7 := hide (HWB.out.alloc (.cells #[.string ⟨#[100, 97, 116, 97]⟩, .string sr, .string sc, .string sx] 9))
          obtain ⟨B0, hB0⟩ : ∃ g, g = w7.heap.size := ⟨_, rfl⟩
          rw [← hB0] at HNB ⊢
          clear hB0
          generalize (w7.alloc (.cells #[.string ⟨#[100, 97, 116, 97]⟩, .string sr, .string sc, .string sx] 9)) = w8 at *
          refine wpAnyH_ready (rs := [9]) (by kernel_rfl) (by simp) ?_
          refine (AllReadyH.cons rfl (fun K hK => ?_) AllReadyH.nil)
          refine step_str_append rfl (.tmp 88) (.tmp 96) rfl W0 [si, sf, st, sd] [⟨#[100, 97, 116, 97]⟩, sr, sc, sx] 4 rfl (own_four24 HWB7.out) B0 4 rfl rfl HNB.out (by simp) (by simp) (by have := HWB7.out.lt; omega) ?_
          intro v9 w9 g1 g2
          refine hK.out _ _ (by exact g2 _ _ hHeld (by simp)) (fun hHeldN => ?_)
          clear hK K hHeld g2
          have hHeld := hHeldN
          clear hHeldN
          have HOW6 := hide g1
          clear g1
          try simp only [List.getElem_toArray, List.getElem_cons_succ, List.getElem_cons_zero, Act.put, List.setIfInBounds_toArray, List.set_cons_zero, List.set_cons_succ]
          refine wpAnyH_take (i := 10) (v := ?_) rfl (by kernel_rfl) (by kernel_rfl) (by kernel_rfl) (fun _ _ _ h => h) (Or.inl ⟨by rfl, ?_⟩) (by assumption) ?_
          rotate_left
          · (intro w hSw; (try dsimp only at hSw); go_simp; try with_reducible rfl)
          try simp only [List.getElem_toArray, List.getElem_cons_succ, List.getElem_cons_zero, Act.put, List.setIfInBounds_toArray, List.set_cons_zero, List.set_cons_succ]
          refine wpAnyH_done (by kernel_rfl) ?_ _
          replace HO := hide (only_in HO.out hHeld HWG.out)
          obtain ⟨A6, c6, rfl, _, _⟩ := own_form HOW6.out
          have HO6 := hide HO.out
          clear hHeld
          go_wp2_with (first
      | (go_at_call 44; refine (join_own _ W0 A6 c6 [si, sf, st, sd, ⟨#[100, 97, 116, 97]⟩, sr, sc, sx] HOW6.out (by simp) (by simp) (List.forall_mem_cons.2 ⟨Z1.out, (List.forall_mem_cons.2 ⟨Z2.out, (List.forall_mem_cons.2 ⟨Z3.out, (List.forall_mem_cons.2 ⟨Z4.out, (List.forall_mem_cons.2 ⟨(by decide), (List.forall_mem_cons.2 ⟨Z6.out, (List.forall_mem_cons.2 ⟨Z7.out, (List.forall_mem_cons.2 ⟨Z8.out, (fun _ h => by cases h)⟩)⟩)⟩)⟩)⟩)⟩)⟩)⟩)).mono ?_; rintro e7 w7 ⟨rfl, ho⟩; replace HO6 := hide (HO6.out.trans ho); clear ho))
          go_ret2
          exact lpost HV.out HO6.out
        · have hk4 := hk
          have q4 : (kk == 4) = false := by rw [beq_eq_false_iff_ne]; exact hk4
          have HV := hide (show joinW (wordsW i f t d cd ⟨k, s, r, c, x4, x5, x6, x7, x8, x9, x10, x11, x12⟩ l.length) = joinW [si, sf, st, sd, ⟨#[114, 97, 119]⟩, sn] by unfold wordsW; rw [HTW.out.2.2.2.2 ⟨hk1, hk2, hk3, hk4⟩, E1.out, E2.out, E3.out, E4.out, E9.out]; rfl)
          clear hk hk1 hk2 hk3 hk4
          have c2 := HB1.out.cell 2; simp at c2
          have hcv := V9.out
          go_wp2_with (first
      | (go_at_call 33; (with_reducible refine (P9.out _ (HT.out.only HO.out (by simp))).mono ?_); rintro e2 w5 ⟨rfl, ho⟩; replace HO := hide (HO.out.trans ho); replace HOZ := hide (HOZ.out.trans ho); replace HWB := hide (HWB.out.only ho (by simp)); replace HOW := hide (own_four24 HWB.out); clear ho c2)
      | (at_builtin; refine wpList_str_append rfl (.tmp 59) (.tmp 65) rfl W0 _ [si, sf, st, sd] [⟨#[114, 97, 119]⟩, sn] rfl _ rfl rfl HOW.out (by simp) (by simp) (by have := HWS.out; have := HOZ.out.size; omega) rfl ?_; intro v6 w6 g1 g2; have HO6 := hide (g2 [] w HO.out (fun q hq => .inr (by have := HWG.out; omega))); have HOW6 := hide g1; clear g1 g2; obtain ⟨A6, c6, rfl, _, _⟩ := own_form HOW6.out)
      | (go_at_call 44; refine (join_own _ W0 A6 c6 [si, sf, st, sd, ⟨#[114, 97, 119]⟩, sn] HOW6.out (by simp) (by simp) (List.forall_mem_cons.2 ⟨Z1.out, (List.forall_mem_cons.2 ⟨Z2.out, (List.forall_mem_cons.2 ⟨Z3.out, (List.forall_mem_cons.2 ⟨Z4.out, (List.forall_mem_cons.2 ⟨(by decide), (List.forall_mem_cons.2 ⟨Z9.out, (fun _ h => by cases h)⟩)⟩)⟩)⟩)⟩)⟩)).mono ?_; rintro e7 w7 ⟨rfl, ho⟩; replace HO6 := hide (HO6.out.trans ho); clear ho))
          go_ret2
          exact lpost HV.out HO6.out
end
end Go.Proofs.YteoifokmbkpbnaaDoor

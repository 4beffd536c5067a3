/-
  Walks and plain words (texts Ws1, Ws2, Ws). No condition beyond those that each theorem states.
-/
import Derived.Deep.RegionHeld3
import Derived.StillTailTactics
import Derived.Test.YtcokjoidpnfjhaaGreatDoorA18
namespace Go.Proofs.YtcokjoidpnfjhaaGreatDoor
section
open Go.RowKit Go.Deep

set_option maxRecDepth 100000 in
set_option maxHeartbeats 12800000 in
theorem Body_1 (w : World) (s r c : Nat) (x4 x5 x6 x7 x8 x9 x10 x11 x12 : ByteArray) (hF : (Mg.mk 1 s r c x4 x5 x6 x7 x8 x9 x10 x11 x12).Fine) (hR : rightM (Mg.mk 1 s r c x4 x5 x6 x7 x8 x9 x10 x11 x12) = true) (htab : Tab w) : Calls Tryz.prog 91 #[.agg #[.int .i64 1, .int .u32 (s : Nat), .int .u32 (r : Nat), .int .u64 (c : Nat), .string x4, .string x5, .string x6, .string x7, .string x8, .string x9, .string x10, .string x11, .string x12]] w (MakePost (bodyM (Mg.mk 1 s r c x4 x5 x6 x7 x8 x9 x10 x11 x12)) w) := by
  have HV := hide (show bodyM (Mg.mk 1 s r c x4 x5 x6 x7 x8 x9 x10 x11 x12) = makeV 11 0 [] ([numT 1, numT s, numT r] ++ [x4, x5, x6]) by unfold bodyM; rw [if_pos ⟨hR, by show (1 : Int) ≤ 2; omega⟩]; rfl)
  have HTM := hide (fun W => Terms_1 W s r c x4 x5 x6 x7 x8 x9 x10 x11 x12 hF)
  unfold TermsPost at HTM
  simp only [hR, if_true] at HTM
  obtain ⟨hs, hr, hc, hx4, hx5, hx6, hx7, hx8, hx9, hx10, hx11, hx12⟩ := hF
  simp only at hs hr hc hx4 hx5 hx6 hx7 hx8 hx9 hx10 hx11 hx12
  have hws : IntKind.u64.wrap (s : Int) = s := by rw [IntKind.wrap_u64]; omega
  have hwr : IntKind.u64.wrap (r : Int) = r := by rw [IntKind.wrap_u64]; omega
  obtain ⟨is, his, hs0, hs1, hs2⟩ := info_parts (show (Tryz.prog.info? 9).map (fun i => (i.zero, i.size, i.bytes)) = some (some (.string ByteArray.empty), 1, 16) by kernel_rfl)
  have HMB := hide (Blk.new w 29 #[.int .i64 1, .int .u32 (s : Nat), .int .u32 (r : Nat), .int .u64 (c : Nat), .string x4, .string x5, .string x6, .string x7, .string x8, .string x9, .string x10, .string x11, .string x12])
  have HO := hide ((Only.refl [] w).alloc (.cells #[.int .i64 1, .int .u32 (s : Nat), .int .u32 (r : Nat), .int .u64 (c : Nat), .string x4, .string x5, .string x6, .string x7, .string x8, .string x9, .string x10, .string x11, .string x12] 29))
  have HT := hide (htab.only HO.out (by simp))
  clear htab
  clear hR
  have m0 := HMB.out.cell 0; have m1 := HMB.out.cell 1; have m2 := HMB.out.cell 2; have m3 := HMB.out.cell 3; have m4 := HMB.out.cell 4; have m5 := HMB.out.cell 5; have m6 := HMB.out.cell 6; have m7 := HMB.out.cell 7; have m8 := HMB.out.cell 8; have m9 := HMB.out.cell 9; have m10 := HMB.out.cell 10; have m11 := HMB.out.cell 11; have m12 := HMB.out.cell 12; simp at m0 m1 m2 m3 m4 m5 m6 m7 m8 m9 m10 m11 m12
  go_enter Tryz.func91, Tryz.ntmps91
  go_upto_region 4 with (go_at_call 109; refine (HTM.out _).mono ?_; rintro e v1 ⟨ho, v, rfl, hrd⟩; obtain ⟨A, cap, hv, hcc, hmm⟩ := hrd.form; replace hv : v = .slice A 5 cap := hv; subst hv; replace hcc : 5 ≤ cap := hcc; have HRD := hide (show Rd v1 [] (.slice A 5 cap) (strs [x4, x5, x6, x11, x12]) from hrd); replace HMB := hide (HMB.out.only ho (by simp)); replace HO := hide (HO.out.trans ho); replace HT := hide (HT.out.only ho (by simp)); clear ho hrd m0 m1 m2 m3 m4 m5 m6 m7 m8 m9 m10 m11 m12; have m0 := HMB.out.cell 0; simp at m0)
  have hcI : (3 : Int) ≤ cap := by omega
  clear m0
  refine wp_region_held_drew (S := fun W => Only [] v1 W) (by kernel_rfl) (by exact (Only.refl [] v1).drew) (fun hHeld => ?_)
  refine wpAnyH_take (i := 0) (v := ?_) rfl (by kernel_rfl) (by kernel_rfl) (by kernel_rfl) (fun _ _ _ h => h) (Or.inl ⟨by rfl, ?_⟩) (by assumption) ?_
  rotate_left
  · (intro w hSw; (try dsimp only at hSw); go_simp; try with_reducible rfl)
  try simp only [List.getElem_toArray, List.getElem_cons_zero, Act.put, List.setIfInBounds_toArray, List.set_cons_zero, List.set_cons_succ]
  refine wpAnyH_take (i := 1) (v := ?_) rfl (by kernel_rfl) (by kernel_rfl) (by kernel_rfl) (fun _ _ _ h => h) (Or.inl ⟨by rfl, ?_⟩) (by assumption) ?_
  rotate_left
  · (intro w hSw; (try dsimp only at hSw); have HMw := HMB.out.only hSw (by simp); have m0 := (hide HMw).out.cell 0; simp at m0; go_simp; try with_reducible rfl)
  try simp only [List.getElem_toArray, List.getElem_cons_succ, List.getElem_cons_zero, Act.put, List.setIfInBounds_toArray, List.set_cons_zero, List.set_cons_succ]
  refine wpAnyH_take (i := 2) (v := ?_) rfl (by kernel_rfl) (by kernel_rfl) (by kernel_rfl) (fun _ _ _ h => h) (Or.inl ⟨by rfl, ?_⟩) (by assumption) ?_
  rotate_left
  · (intro w hSw; (try dsimp only at hSw); go_simp; try with_reducible rfl)
  try simp only [List.getElem_toArray, List.getElem_cons_succ, List.getElem_cons_zero, Act.put, List.setIfInBounds_toArray, List.set_cons_zero, List.set_cons_succ]
  refine wpAnyH_take (i := 4) (v := ?_) rfl (by kernel_rfl) (by kernel_rfl) (by kernel_rfl) (fun _ _ _ h => h) (Or.inl ⟨by rfl, ?_⟩) (by assumption) ?_
  rotate_left
  · (intro w hSw; (try dsimp only at hSw); go_simp; try with_reducible rfl)
  try simp only [List.getElem_toArray, List.getElem_cons_succ, List.getElem_cons_zero, Act.put, List.setIfInBounds_toArray, List.set_cons_zero, List.set_cons_succ]
  refine wpAnyH_take (i := 5) (v := ?_) rfl (by kernel_rfl) (by kernel_rfl) (by kernel_rfl) (fun _ _ _ h => h) (Or.inl ⟨by rfl, ?_⟩) (by assumption) ?_
  rotate_left
  · (intro w hSw; (try dsimp only at hSw); have HMw := HMB.out.only hSw (by simp); have m1 := (hide HMw).out.cell 1; simp at m1; go_simp; try with_reducible rfl)
  try simp only [List.getElem_toArray, List.getElem_cons_succ, List.getElem_cons_zero, Act.put, List.setIfInBounds_toArray, List.set_cons_zero, List.set_cons_succ]
  refine wpAnyH_take (i := 6) (v := ?_) rfl (by kernel_rfl) (by kernel_rfl) (by kernel_rfl) (fun _ _ _ h => h) (Or.inl ⟨by rfl, ?_⟩) (by assumption) ?_
  rotate_left
  · (intro w hSw; (try dsimp only at hSw); go_simp; try with_reducible rfl)
  try simp only [List.getElem_toArray, List.getElem_cons_succ, List.getElem_cons_zero, Act.put, List.setIfInBounds_toArray, List.set_cons_zero, List.set_cons_succ]
  refine wpAnyH_take (i := 8) (v := ?_) rfl (by kernel_rfl) (by kernel_rfl) (by kernel_rfl) (fun _ _ _ h => h) (Or.inl ⟨by rfl, ?_⟩) (by assumption) ?_
  rotate_left
  · (intro w hSw; (try dsimp only at hSw); go_simp; try with_reducible rfl)
  try simp only [List.getElem_toArray, List.getElem_cons_succ, List.getElem_cons_zero, Act.put, List.setIfInBounds_toArray, List.set_cons_zero, List.set_cons_succ]
  refine wpAnyH_take (i := 9) (v := ?_) rfl (by kernel_rfl) (by kernel_rfl) (by kernel_rfl) (fun _ _ _ h => h) (Or.inl ⟨by rfl, ?_⟩) (by assumption) ?_
  rotate_left
  · (intro w hSw; (try dsimp only at hSw); have HMw := HMB.out.only hSw (by simp); have m2 := (hide HMw).out.cell 2; simp at m2; go_simp; try with_reducible rfl)
  try simp only [List.getElem_toArray, List.getElem_cons_succ, List.getElem_cons_zero, Act.put, List.setIfInBounds_toArray, List.set_cons_zero, List.set_cons_succ]
  refine wpAnyH_take (i := 10) (v := ?_) rfl (by kernel_rfl) (by kernel_rfl) (by kernel_rfl) (fun _ _ _ h => h) (Or.inl ⟨by rfl, ?_⟩) (by assumption) ?_
  rotate_left
  · (intro w hSw; (try dsimp only at hSw); go_simp; try with_reducible rfl)
  try simp only [List.getElem_toArray, List.getElem_cons_succ, List.getElem_cons_zero, Act.put, List.setIfInBounds_toArray, List.set_cons_zero, List.set_cons_succ]
  refine wpAnyH_ready (rs := [3]) (by kernel_rfl) (by simp) ?_
  refine AllReadyH.cons rfl (fun K hK => ?_) AllReadyH.nil
  go_simp
  (go_at_call 122; refine (Make_any 3 (by decide) 1 (by omega) _ _ [] [] (by simp) _ (Rd.nil _ _) (Rd.nil _ _) (HT.out.only hHeld (by simp))).mono ?_; rintro e wz ⟨rfl, ho⟩)
  refine hK.out _ _ (by exact hHeld.trans ho) (fun hHeld => ?_)
  clear hK K ho
  try simp only [List.getElem_toArray, List.getElem_cons_succ, List.getElem_cons_zero, Act.put, List.setIfInBounds_toArray, List.set_cons_zero, List.set_cons_succ]
  refine wpAnyH_ready (rs := [7]) (by kernel_rfl) (by simp) ?_
  refine AllReadyH.cons rfl (fun K hK => ?_) AllReadyH.nil
  go_simp
  (go_at_call 122; refine (Make_any 3 (by decide) s (by omega) _ _ [] [] (by simp) _ (Rd.nil _ _) (Rd.nil _ _) (HT.out.only hHeld (by simp))).mono ?_; rintro e wz ⟨rfl, ho⟩)
  refine hK.out _ _ (by exact hHeld.trans ho) (fun hHeld => ?_)
  clear hK K ho
  try simp only [List.getElem_toArray, List.getElem_cons_succ, List.getElem_cons_zero, Act.put, List.setIfInBounds_toArray, List.set_cons_zero, List.set_cons_succ]
  refine wpAnyH_ready (rs := [11]) (by kernel_rfl) (by simp) ?_
  refine AllReadyH.cons rfl (fun K hK => ?_) AllReadyH.nil
  go_simp
  (go_at_call 122; refine (Make_any 3 (by decide) r (by omega) _ _ [] [] (by simp) _ (Rd.nil _ _) (Rd.nil _ _) (HT.out.only hHeld (by simp))).mono ?_; rintro e wz ⟨rfl, ho⟩)
  refine hK.out _ _ (by exact hHeld.trans ho) (fun hHeld => ?_)
  clear hK K ho
  try simp only [List.getElem_toArray, List.getElem_cons_succ, List.getElem_cons_zero, Act.put, List.setIfInBounds_toArray, List.set_cons_zero, List.set_cons_succ]
  refine wpAnyH_ready (rs := [12]) (by kernel_rfl) (by simp) ?_
  refine AllReadyH.cons rfl (fun K hK => ?_) AllReadyH.nil
  go_simp
  have HZ0 := hide hHeld.size
  refine hK.out _ _ (by exact hHeld.alloc _) (fun hHeld => ?_)
  clear hK K
  try simp only [List.getElem_toArray, List.getElem_cons_succ, List.getElem_cons_zero, Act.put, List.setIfInBounds_toArray, List.set_cons_zero, List.set_cons_succ]
  refine wpAnyH_take (i := 13) (v := ?_) rfl (by kernel_rfl) (by kernel_rfl) (by kernel_rfl) (fun _ _ _ h => h) (Or.inl ⟨by rfl, ?_⟩) (by assumption) ?_
  rotate_left
  · (intro w hSw; (try dsimp only at hSw); go_simp; try with_reducible rfl)
  try simp only [List.getElem_toArray, List.getElem_cons_succ, List.getElem_cons_zero, Act.put, List.setIfInBounds_toArray, List.set_cons_zero, List.set_cons_succ]
  refine wpAnyH_done (by kernel_rfl) ?_ _
  have hz1 := make_size' 3 1 [] [] (by omega)
  have hz2 := make_size' 3 s [] [] (by omega)
  have hz3 := make_size' 3 r [] [] (by omega)
  have HOW := hide (show (wz.alloc (.cells #[.string (makeV 3 1 [] []), .string (makeV 3 s [] []), .string (makeV 3 r [] [])] 9)).ownsRow wz.heap.size 9 1 (.slice (some ⟨wz.heap.size, 0, none⟩) 3 3) 3 (strs [numT 1, numT s, numT r]) from World.ownsRow_lit wz #[.string (makeV 3 1 [] []), .string (makeV 3 s [] []), .string (makeV 3 r [] [])] 3 (Nat.le_refl _) (by unfold maxLen; omega) rfl)
  have HHD := hide hHeld
  have HRT := hide (show Rd (wz.alloc (.cells #[.string (makeV 3 1 [] []), .string (makeV 3 s [] []), .string (makeV 3 r [] [])] 9)) [] (.slice A 3 cap) (strs [x4, x5, x6]) from (HRD.out.only hHeld (by simp)).take 3 (by omega))
  have HSZ := hide (show wz.heap.size ≤ (wz.alloc (.cells #[.string (makeV 3 1 [] []), .string (makeV 3 s [] []), .string (makeV 3 r [] [])] 9)).heap.size by simp)
  have HBZ := hide (show v1.heap.size ≤ wz.heap.size from HZ0.out)
  generalize (wz.alloc (.cells #[.string (makeV 3 1 [] []), .string (makeV 3 s [] []), .string (makeV 3 r [] [])] 9)) = wp at *
  have HPS := hide (show ∀ p ∈ [numT 1, numT s, numT r] ++ [x4, x5, x6], p.size ≤ maxLen by intro p hp; simp at hp; rcases hp with rfl | rfl | rfl | rfl | rfl | rfl; all_goals assumption)
  go_wp2_with (first | (at_builtin; refine wpList_append_any _ rfl (.tmp 33) (.tmp 38) 60 rfl wz.heap.size 9 is (.string ByteArray.empty) 1 16 Tryz.underlying60 his hs0 hs1 hs2 rfl (by decide) _ 3 _ rfl HOW.out wp.heap.size A 3 cap (strs [x4, x5, x6]) rfl HRT.out.reads (by intro u hu; obtain ⟨x, _, rfl⟩ := List.mem_map.1 hu; rfl) (by unfold maxLen; omega) (by omega) HSZ.out ?_; intro vv w3 hown1 hg1 _; have HOW3 := hide (show w3.ownsRow wz.heap.size 9 1 vv 6 (strs ([numT 1, numT s, numT r] ++ [x4, x5, x6])) from hown1); have HO3 := hide (show Only [] v1 w3 from HHD.out.grown hg1 (fun jj hjj => .inr (by have := own_block_ge HOW.out hjj; have := HBZ.out; omega))); clear hown1 hg1; obtain ⟨Av, cv, rfl, _, _⟩ := own_form HOW3.out) | (go_at_call 122; refine (Make_any 11 (by decide) 0 (by omega) _ _ [] ([numT 1, numT s, numT r] ++ [x4, x5, x6]) HPS.out _ (Rd.nil _ _) (Rd.of_own (N := []) HOW3.out (by simp)).1 (HT.out.only HO3.out (by simp))).mono ?_; rintro e wm ⟨rfl, ho⟩; have HOF := hide ((HO.out.trans HO3.out).trans ho); clear ho))
  go_ret
  exact makepost HV.out HOF.out
end
section
open Go.RowKit Go.Deep

set_option maxRecDepth 100000 in
set_option maxHeartbeats 12800000 in
theorem Body_2 (w : World) (s r c : Nat) (x4 x5 x6 x7 x8 x9 x10 x11 x12 : ByteArray) (hF : (Mg.mk 2 s r c x4 x5 x6 x7 x8 x9 x10 x11 x12).Fine) (hR : rightM (Mg.mk 2 s r c x4 x5 x6 x7 x8 x9 x10 x11 x12) = true) (htab : Tab w) : Calls Tryz.prog 91 #[.agg #[.int .i64 2, .int .u32 (s : Nat), .int .u32 (r : Nat), .int .u64 (c : Nat), .string x4, .string x5, .string x6, .string x7, .string x8, .string x9, .string x10, .string x11, .string x12]] w (MakePost (bodyM (Mg.mk 2 s r c x4 x5 x6 x7 x8 x9 x10 x11 x12)) w) := by
  have HV := hide (show bodyM (Mg.mk 2 s r c x4 x5 x6 x7 x8 x9 x10 x11 x12) = makeV 11 0 [] ([numT 2, numT s, numT r] ++ [x4, x7]) by unfold bodyM; rw [if_pos ⟨hR, by show (2 : Int) ≤ 2; omega⟩]; rfl)
  have HTM := hide (fun W => Terms_2 W s r c x4 x5 x6 x7 x8 x9 x10 x11 x12 hF)
  unfold TermsPost at HTM
  simp only [hR, if_true] at HTM
  obtain ⟨hs, hr, hc, hx4, hx5, hx6, hx7, hx8, hx9, hx10, hx11, hx12⟩ := hF
  simp only at hs hr hc hx4 hx5 hx6 hx7 hx8 hx9 hx10 hx11 hx12
  have hws : IntKind.u64.wrap (s : Int) = s := by rw [IntKind.wrap_u64]; omega
  have hwr : IntKind.u64.wrap (r : Int) = r := by rw [IntKind.wrap_u64]; omega
  obtain ⟨is, his, hs0, hs1, hs2⟩ := info_parts (show (Tryz.prog.info? 9).map (fun i => (i.zero, i.size, i.bytes)) = some (some (.string ByteArray.empty), 1, 16) by kernel_rfl)
  have HMB := hide (Blk.new w 29 #[.int .i64 2, .int .u32 (s : Nat), .int .u32 (r : Nat), .int .u64 (c : Nat), .string x4, .string x5, .string x6, .string x7, .string x8, .string x9, .string x10, .string x11, .string x12])
  have HO := hide ((Only.refl [] w).alloc (.cells #[.int .i64 2, .int .u32 (s : Nat), .int .u32 (r : Nat), .int .u64 (c : Nat), .string x4, .string x5, .string x6, .string x7, .string x8, .string x9, .string x10, .string x11, .string x12] 29))
  have HT := hide (htab.only HO.out (by simp))
  clear htab
  clear hR
  have m0 := HMB.out.cell 0; have m1 := HMB.out.cell 1; have m2 := HMB.out.cell 2; have m3 := HMB.out.cell 3; have m4 := HMB.out.cell 4; have m5 := HMB.out.cell 5; have m6 := HMB.out.cell 6; have m7 := HMB.out.cell 7; have m8 := HMB.out.cell 8; have m9 := HMB.out.cell 9; have m10 := HMB.out.cell 10; have m11 := HMB.out.cell 11; have m12 := HMB.out.cell 12; simp at m0 m1 m2 m3 m4 m5 m6 m7 m8 m9 m10 m11 m12
  go_enter Tryz.func91, Tryz.ntmps91
  go_upto_region 4 with (go_at_call 109; refine (HTM.out _).mono ?_; rintro e v1 ⟨ho, v, rfl, hrd⟩; obtain ⟨A, cap, hv, hcc, hmm⟩ := hrd.form; replace hv : v = .slice A 4 cap := hv; subst hv; replace hcc : 4 ≤ cap := hcc; have HRD := hide (show Rd v1 [] (.slice A 4 cap) (strs [x4, x7, x11, x12]) from hrd); replace HMB := hide (HMB.out.only ho (by simp)); replace HO := hide (HO.out.trans ho); replace HT := hide (HT.out.only ho (by simp)); clear ho hrd m0 m1 m2 m3 m4 m5 m6 m7 m8 m9 m10 m11 m12; have m0 := HMB.out.cell 0; simp at m0)
  have hcI : (2 : Int) ≤ cap := by omega
  clear m0
  refine wp_region_held_drew (S := fun W => Only [] v1 W) (by kernel_rfl) (by exact (Only.refl [] v1).drew) (fun hHeld => ?_)
  refine wpAnyH_take (i := 0) (v := ?_) rfl (by kernel_rfl) (by kernel_rfl) (by kernel_rfl) (fun _ _ _ h => h) (Or.inl ⟨by rfl, ?_⟩) (by assumption) ?_
  rotate_left
  · (intro w hSw; (try dsimp only at hSw); go_simp; try with_reducible rfl)
  try simp only [List.getElem_toArray, List.getElem_cons_zero, Act.put, List.setIfInBounds_toArray, List.set_cons_zero, List.set_cons_succ]
  refine wpAnyH_take (i := 1) (v := ?_) rfl (by kernel_rfl) (by kernel_rfl) (by kernel_rfl) (fun _ _ _ h => h) (Or.inl ⟨by rfl, ?_⟩) (by assumption) ?_
  rotate_left
  · (intro w hSw; (try dsimp only at hSw); have HMw := HMB.out.only hSw (by simp); have m0 := (hide HMw).out.cell 0; simp at m0; go_simp; try with_reducible rfl)
  try simp only [List.getElem_toArray, List.getElem_cons_succ, List.getElem_cons_zero, Act.put, List.setIfInBounds_toArray, List.set_cons_zero, List.set_cons_succ]
  refine wpAnyH_take (i := 2) (v := ?_) rfl (by kernel_rfl) (by kernel_rfl) (by kernel_rfl) (fun _ _ _ h => h) (Or.inl ⟨by rfl, ?_⟩) (by assumption) ?_
  rotate_left
  · (intro w hSw; (try dsimp only at hSw); go_simp; try with_reducible rfl)
  try simp only [List.getElem_toArray, List.getElem_cons_succ, List.getElem_cons_zero, Act.put, List.setIfInBounds_toArray, List.set_cons_zero, List.set_cons_succ]
  refine wpAnyH_take (i := 4) (v := ?_) rfl (by kernel_rfl) (by kernel_rfl) (by kernel_rfl) (fun _ _ _ h => h) (Or.inl ⟨by rfl, ?_⟩) (by assumption) ?_
  rotate_left
  · (intro w hSw; (try dsimp only at hSw); go_simp; try with_reducible rfl)
  try simp only [List.getElem_toArray, List.getElem_cons_succ, List.getElem_cons_zero, Act.put, List.setIfInBounds_toArray, List.set_cons_zero, List.set_cons_succ]
  refine wpAnyH_take (i := 5) (v := ?_) rfl (by kernel_rfl) (by kernel_rfl) (by kernel_rfl) (fun _ _ _ h => h) (Or.inl ⟨by rfl, ?_⟩) (by assumption) ?_
  rotate_left
  · (intro w hSw; (try dsimp only at hSw); have HMw := HMB.out.only hSw (by simp); have m1 := (hide HMw).out.cell 1; simp at m1; go_simp; try with_reducible rfl)
  try simp only [List.getElem_toArray, List.getElem_cons_succ, List.getElem_cons_zero, Act.put, List.setIfInBounds_toArray, List.set_cons_zero, List.set_cons_succ]
  refine wpAnyH_take (i := 6) (v := ?_) rfl (by kernel_rfl) (by kernel_rfl) (by kernel_rfl) (fun _ _ _ h => h) (Or.inl ⟨by rfl, ?_⟩) (by assumption) ?_
  rotate_left
  · (intro w hSw; (try dsimp only at hSw); go_simp; try with_reducible rfl)
  try simp only [List.getElem_toArray, List.getElem_cons_succ, List.getElem_cons_zero, Act.put, List.setIfInBounds_toArray, List.set_cons_zero, List.set_cons_succ]
  refine wpAnyH_take (i := 8) (v := ?_) rfl (by kernel_rfl) (by kernel_rfl) (by kernel_rfl) (fun _ _ _ h => h) (Or.inl ⟨by rfl, ?_⟩) (by assumption) ?_
  rotate_left
  · (intro w hSw; (try dsimp only at hSw); go_simp; try with_reducible rfl)
  try simp only [List.getElem_toArray, List.getElem_cons_succ, List.getElem_cons_zero, Act.put, List.setIfInBounds_toArray, List.set_cons_zero, List.set_cons_succ]
  refine wpAnyH_take (i := 9) (v := ?_) rfl (by kernel_rfl) (by kernel_rfl) (by kernel_rfl) (fun _ _ _ h => h) (Or.inl ⟨by rfl, ?_⟩) (by assumption) ?_
  rotate_left
  · (intro w hSw; (try dsimp only at hSw); have HMw := HMB.out.only hSw (by simp); have m2 := (hide HMw).out.cell 2; simp at m2; go_simp; try with_reducible rfl)
  try simp only [List.getElem_toArray, List.getElem_cons_succ, List.getElem_cons_zero, Act.put, List.setIfInBounds_toArray, List.set_cons_zero, List.set_cons_succ]
  refine wpAnyH_take (i := 10) (v := ?_) rfl (by kernel_rfl) (by kernel_rfl) (by kernel_rfl) (fun _ _ _ h => h) (Or.inl ⟨by rfl, ?_⟩) (by assumption) ?_
  rotate_left
  · (intro w hSw; (try dsimp only at hSw); go_simp; try with_reducible rfl)
  try simp only [List.getElem_toArray, List.getElem_cons_succ, List.getElem_cons_zero, Act.put, List.setIfInBounds_toArray, List.set_cons_zero, List.set_cons_succ]
  refine wpAnyH_ready (rs := [3]) (by kernel_rfl) (by simp) ?_
  refine AllReadyH.cons rfl (fun K hK => ?_) AllReadyH.nil
  go_simp
  (go_at_call 122; refine (Make_any 3 (by decide) 2 (by omega) _ _ [] [] (by simp) _ (Rd.nil _ _) (Rd.nil _ _) (HT.out.only hHeld (by simp))).mono ?_; rintro e wz ⟨rfl, ho⟩)
  refine hK.out _ _ (by exact hHeld.trans ho) (fun hHeld => ?_)
  clear hK K ho
  try simp only [List.getElem_toArray, List.getElem_cons_succ, List.getElem_cons_zero, Act.put, List.setIfInBounds_toArray, List.set_cons_zero, List.set_cons_succ]
  refine wpAnyH_ready (rs := [7]) (by kernel_rfl) (by simp) ?_
  refine AllReadyH.cons rfl (fun K hK => ?_) AllReadyH.nil
  go_simp
  (go_at_call 122; refine (Make_any 3 (by decide) s (by omega) _ _ [] [] (by simp) _ (Rd.nil _ _) (Rd.nil _ _) (HT.out.only hHeld (by simp))).mono ?_; rintro e wz ⟨rfl, ho⟩)
  refine hK.out _ _ (by exact hHeld.trans ho) (fun hHeld => ?_)
  clear hK K ho
  try simp only [List.getElem_toArray, List.getElem_cons_succ, List.getElem_cons_zero, Act.put, List.setIfInBounds_toArray, List.set_cons_zero, List.set_cons_succ]
  refine wpAnyH_ready (rs := [11]) (by kernel_rfl) (by simp) ?_
  refine AllReadyH.cons rfl (fun K hK => ?_) AllReadyH.nil
  go_simp
  (go_at_call 122; refine (Make_any 3 (by decide) r (by omega) _ _ [] [] (by simp) _ (Rd.nil _ _) (Rd.nil _ _) (HT.out.only hHeld (by simp))).mono ?_; rintro e wz ⟨rfl, ho⟩)
  refine hK.out _ _ (by exact hHeld.trans ho) (fun hHeld => ?_)
  clear hK K ho
  try simp only [List.getElem_toArray, List.getElem_cons_succ, List.getElem_cons_zero, Act.put, List.setIfInBounds_toArray, List.set_cons_zero, List.set_cons_succ]
  refine wpAnyH_ready (rs := [12]) (by kernel_rfl) (by simp) ?_
  refine AllReadyH.cons rfl (fun K hK => ?_) AllReadyH.nil
  go_simp
  have HZ0 := hide hHeld.size
  refine hK.out _ _ (by exact hHeld.alloc _) (fun hHeld => ?_)
  clear hK K
  try simp only [List.getElem_toArray, List.getElem_cons_succ, List.getElem_cons_zero, Act.put, List.setIfInBounds_toArray, List.set_cons_zero, List.set_cons_succ]
  refine wpAnyH_take (i := 13) (v := ?_) rfl (by kernel_rfl) (by kernel_rfl) (by kernel_rfl) (fun _ _ _ h => h) (Or.inl ⟨by rfl, ?_⟩) (by assumption) ?_
  rotate_left
  · (intro w hSw; (try dsimp only at hSw); go_simp; try with_reducible rfl)
  try simp only [List.getElem_toArray, List.getElem_cons_succ, List.getElem_cons_zero, Act.put, List.setIfInBounds_toArray, List.set_cons_zero, List.set_cons_succ]
  refine wpAnyH_done (by kernel_rfl) ?_ _
  have hz1 := make_size' 3 2 [] [] (by omega)
  have hz2 := make_size' 3 s [] [] (by omega)
  have hz3 := make_size' 3 r [] [] (by omega)
  have HOW := hide (show (wz.alloc (.cells #[.string (makeV 3 2 [] []), .string (makeV 3 s [] []), .string (makeV 3 r [] [])] 9)).ownsRow wz.heap.size 9 1 (.slice (some ⟨wz.heap.size, 0, none⟩) 3 3) 3 (strs [numT 2, numT s, numT r]) from World.ownsRow_lit wz #[.string (makeV 3 2 [] []), .string (makeV 3 s [] []), .string (makeV 3 r [] [])] 3 (Nat.le_refl _) (by unfold maxLen; omega) rfl)
  have HHD := hide hHeld
  have HRT := hide (show Rd (wz.alloc (.cells #[.string (makeV 3 2 [] []), .string (makeV 3 s [] []), .string (makeV 3 r [] [])] 9)) [] (.slice A 2 cap) (strs [x4, x7]) from (HRD.out.only hHeld (by simp)).take 2 (by omega))
  have HSZ := hide (show wz.heap.size ≤ (wz.alloc (.cells #[.string (makeV 3 2 [] []), .string (makeV 3 s [] []), .string (makeV 3 r [] [])] 9)).heap.size by simp)
  have HBZ := hide (show v1.heap.size ≤ wz.heap.size from HZ0.out)
  generalize (wz.alloc (.cells #[.string (makeV 3 2 [] []), .string (makeV 3 s [] []), .string (makeV 3 r [] [])] 9)) = wp at *
  have HPS := hide (show ∀ p ∈ [numT 2, numT s, numT r] ++ [x4, x7], p.size ≤ maxLen by intro p hp; simp at hp; rcases hp with rfl | rfl | rfl | rfl | rfl; all_goals assumption)
  go_wp2_with (first | (at_builtin; refine wpList_append_any _ rfl (.tmp 33) (.tmp 38) 60 rfl wz.heap.size 9 is (.string ByteArray.empty) 1 16 Tryz.underlying60 his hs0 hs1 hs2 rfl (by decide) _ 3 _ rfl HOW.out wp.heap.size A 2 cap (strs [x4, x7]) rfl HRT.out.reads (by intro u hu; obtain ⟨x, _, rfl⟩ := List.mem_map.1 hu; rfl) (by unfold maxLen; omega) (by omega) HSZ.out ?_; intro vv w3 hown1 hg1 _; have HOW3 := hide (show w3.ownsRow wz.heap.size 9 1 vv 5 (strs ([numT 2, numT s, numT r] ++ [x4, x7])) from hown1); have HO3 := hide (show Only [] v1 w3 from HHD.out.grown hg1 (fun jj hjj => .inr (by have := own_block_ge HOW.out hjj; have := HBZ.out; omega))); clear hown1 hg1; obtain ⟨Av, cv, rfl, _, _⟩ := own_form HOW3.out) | (go_at_call 122; refine (Make_any 11 (by decide) 0 (by omega) _ _ [] ([numT 2, numT s, numT r] ++ [x4, x7]) HPS.out _ (Rd.nil _ _) (Rd.of_own (N := []) HOW3.out (by simp)).1 (HT.out.only HO3.out (by simp))).mono ?_; rintro e wm ⟨rfl, ho⟩; have HOF := hide ((HO.out.trans HO3.out).trans ho); clear ho))
  go_ret
  exact makepost HV.out HOF.out
end
section
open Go.RowKit Go.Deep

theorem body_none {m : Mg} (h : rightM m = false ∨ 2 < m.k) : bodyM m = ByteArray.empty := by
  unfold bodyM
  rw [if_neg]
  rintro ⟨h1, h2⟩
  rcases h with h | h
  · rw [h] at h1; cases h1
  · omega
set_option maxRecDepth 100000 in
set_option maxHeartbeats 12800000 in
theorem Body_no (w : World) (m : Mg) (hF : m.Fine) (hR : rightM m = false) : Calls Tryz.prog 91 #[.agg m.cells] w (MakePost (bodyM m) w) := by
  have HV := hide (body_none (.inl hR))
  have HTM := hide (fun W => Terms_any W m hF)
  unfold TermsPost at HTM
  simp only [hR, Bool.false_eq_true, if_false] at HTM
  obtain ⟨k, s, r, c, x4, x5, x6, x7, x8, x9, x10, x11, x12⟩ := m
  unfold Mg.cells at HTM ⊢
  simp only at HTM ⊢
  have HMB := hide (Blk.new w 29 #[.int .i64 k, .int .u32 (s : Nat), .int .u32 (r : Nat), .int .u64 (c : Nat), .string x4, .string x5, .string x6, .string x7, .string x8, .string x9, .string x10, .string x11, .string x12])
  have HO := hide ((Only.refl [] w).alloc (.cells #[.int .i64 k, .int .u32 (s : Nat), .int .u32 (r : Nat), .int .u64 (c : Nat), .string x4, .string x5, .string x6, .string x7, .string x8, .string x9, .string x10, .string x11, .string x12] 29))
  have m0 := HMB.out.cell 0; have m1 := HMB.out.cell 1; have m2 := HMB.out.cell 2; have m3 := HMB.out.cell 3; have m4 := HMB.out.cell 4; have m5 := HMB.out.cell 5; have m6 := HMB.out.cell 6; have m7 := HMB.out.cell 7; have m8 := HMB.out.cell 8; have m9 := HMB.out.cell 9; have m10 := HMB.out.cell 10; have m11 := HMB.out.cell 11; have m12 := HMB.out.cell 12; simp at m0 m1 m2 m3 m4 m5 m6 m7 m8 m9 m10 m11 m12
  clear hF hR
  go_enter Tryz.func91, Tryz.ntmps91
  go_wp2_with (go_at_call 109; refine (HTM.out _).mono ?_; rintro e v1 ⟨ho, rfl⟩; replace HO := hide (HO.out.trans ho); clear ho)
  go_ret
  exact makepost HV.out HO.out
set_option maxRecDepth 100000 in
set_option maxHeartbeats 12800000 in
theorem Body_3 (w : World) (s r c : Nat) (x4 x5 x6 x7 x8 x9 x10 x11 x12 : ByteArray) (hF : (Mg.mk 3 s r c x4 x5 x6 x7 x8 x9 x10 x11 x12).Fine) (hR : rightM (Mg.mk 3 s r c x4 x5 x6 x7 x8 x9 x10 x11 x12) = true) : Calls Tryz.prog 91 #[.agg #[.int .i64 3, .int .u32 (s : Nat), .int .u32 (r : Nat), .int .u64 (c : Nat), .string x4, .string x5, .string x6, .string x7, .string x8, .string x9, .string x10, .string x11, .string x12]] w (MakePost (bodyM (Mg.mk 3 s r c x4 x5 x6 x7 x8 x9 x10 x11 x12)) w) := by
  have HV := hide (body_none (m := (Mg.mk 3 s r c x4 x5 x6 x7 x8 x9 x10 x11 x12)) (.inr (by show (2 : Int) < 3; omega)))
  have HTM := hide (fun W => Terms_3 W s r c x4 x5 x6 x7 x8 x9 x10 x11 x12 hF)
  unfold TermsPost at HTM
  simp only [hR, if_true] at HTM
  have HMB := hide (Blk.new w 29 #[.int .i64 3, .int .u32 (s : Nat), .int .u32 (r : Nat), .int .u64 (c : Nat), .string x4, .string x5, .string x6, .string x7, .string x8, .string x9, .string x10, .string x11, .string x12])
  have HO := hide ((Only.refl [] w).alloc (.cells #[.int .i64 3, .int .u32 (s : Nat), .int .u32 (r : Nat), .int .u64 (c : Nat), .string x4, .string x5, .string x6, .string x7, .string x8, .string x9, .string x10, .string x11, .string x12] 29))
  have m0 := HMB.out.cell 0; have m1 := HMB.out.cell 1; have m2 := HMB.out.cell 2; have m3 := HMB.out.cell 3; have m4 := HMB.out.cell 4; have m5 := HMB.out.cell 5; have m6 := HMB.out.cell 6; have m7 := HMB.out.cell 7; have m8 := HMB.out.cell 8; have m9 := HMB.out.cell 9; have m10 := HMB.out.cell 10; have m11 := HMB.out.cell 11; have m12 := HMB.out.cell 12; simp at m0 m1 m2 m3 m4 m5 m6 m7 m8 m9 m10 m11 m12
  clear hF hR
  go_enter Tryz.func91, Tryz.ntmps91
  go_wp2_with (go_at_call 109; refine (HTM.out _).mono ?_; rintro e v1 ⟨ho, v, rfl, hrd⟩; obtain ⟨A, cap, hv, hcc, hmm⟩ := hrd.form; replace hv : v = .slice A 2 cap := hv; subst hv; replace HMB := hide (HMB.out.only ho (by simp)); replace HO := hide (HO.out.trans ho); clear ho hrd hcc hmm m0; have m0 := HMB.out.cell 0; simp at m0)
  go_ret
  exact makepost HV.out HO.out
set_option maxRecDepth 100000 in
set_option maxHeartbeats 12800000 in
theorem Body_4 (w : World) (s r c : Nat) (x4 x5 x6 x7 x8 x9 x10 x11 x12 : ByteArray) (hF : (Mg.mk 4 s r c x4 x5 x6 x7 x8 x9 x10 x11 x12).Fine) (hR : rightM (Mg.mk 4 s r c x4 x5 x6 x7 x8 x9 x10 x11 x12) = true) : Calls Tryz.prog 91 #[.agg #[.int .i64 4, .int .u32 (s : Nat), .int .u32 (r : Nat), .int .u64 (c : Nat), .string x4, .string x5, .string x6, .string x7, .string x8, .string x9, .string x10, .string x11, .string x12]] w (MakePost (bodyM (Mg.mk 4 s r c x4 x5 x6 x7 x8 x9 x10 x11 x12)) w) := by
  have HV := hide (body_none (m := (Mg.mk 4 s r c x4 x5 x6 x7 x8 x9 x10 x11 x12)) (.inr (by show (2 : Int) < 4; omega)))
  have HTM := hide (fun W => Terms_4 W s r c x4 x5 x6 x7 x8 x9 x10 x11 x12 hF)
  unfold TermsPost at HTM
  simp only [hR, if_true] at HTM
  have HMB := hide (Blk.new w 29 #[.int .i64 4, .int .u32 (s : Nat), .int .u32 (r : Nat), .int .u64 (c : Nat), .string x4, .string x5, .string x6, .string x7, .string x8, .string x9, .string x10, .string x11, .string x12])
  have HO := hide ((Only.refl [] w).alloc (.cells #[.int .i64 4, .int .u32 (s : Nat), .int .u32 (r : Nat), .int .u64 (c : Nat), .string x4, .string x5, .string x6, .string x7, .string x8, .string x9, .string x10, .string x11, .string x12] 29))
  have m0 := HMB.out.cell 0; have m1 := HMB.out.cell 1; have m2 := HMB.out.cell 2; have m3 := HMB.out.cell 3; have m4 := HMB.out.cell 4; have m5 := HMB.out.cell 5; have m6 := HMB.out.cell 6; have m7 := HMB.out.cell 7; have m8 := HMB.out.cell 8; have m9 := HMB.out.cell 9; have m10 := HMB.out.cell 10; have m11 := HMB.out.cell 11; have m12 := HMB.out.cell 12; simp at m0 m1 m2 m3 m4 m5 m6 m7 m8 m9 m10 m11 m12
  clear hF hR
  go_enter Tryz.func91, Tryz.ntmps91
  go_wp2_with (go_at_call 109; refine (HTM.out _).mono ?_; rintro e v1 ⟨ho, v, rfl, hrd⟩; obtain ⟨A, cap, hv, hcc, hmm⟩ := hrd.form; replace hv : v = .slice A 1 cap := hv; subst hv; replace HMB := hide (HMB.out.only ho (by simp)); replace HO := hide (HO.out.trans ho); clear ho hrd hcc hmm m0; have m0 := HMB.out.cell 0; simp at m0)
  go_ret
  exact makepost HV.out HO.out
theorem Body_any (w : World) (m : Mg) (hF : m.Fine) (htab : Tab w) : Calls Tryz.prog 91 #[.agg m.cells] w (MakePost (bodyM m) w) := by
  cases hR : rightM m with
  | false => exact Body_no w m hF hR
  | true =>
    obtain ⟨k, s, r, c, x4, x5, x6, x7, x8, x9, x10, x11, x12⟩ := m
    rcases kinds k with rfl | rfl | rfl | rfl | h
    · exact Body_1 w s r c x4 x5 x6 x7 x8 x9 x10 x11 x12 hF hR htab
    · exact Body_2 w s r c x4 x5 x6 x7 x8 x9 x10 x11 x12 hF hR htab
    · exact Body_3 w s r c x4 x5 x6 x7 x8 x9 x10 x11 x12 hF hR
    · exact Body_4 w s r c x4 x5 x6 x7 x8 x9 x10 x11 x12 hF hR
    · rw [right_none h] at hR; cases hR
theorem body_size (m : Mg) : (bodyM m).size ≤ maxLen := by
  unfold bodyM
  split
  · exact make_size' _ _ _ _ (by omega)
  · exact Nat.zero_le _
set_option maxRecDepth 100000 in
set_option maxHeartbeats 12800000 in
theorem WSigned_any (w : World) (m : Mg) (hF : m.Fine) (htab : Tab w) : Calls Tryz.prog 191 #[.agg m.cells] w (MakePost (signedM m) w) := by
  have HBD := hide (fun W ht => Body_any W m hF ht)
  have hbs := body_size m
  have hx11 := hF.x11
  have HE := hide (fun (h : bodyM m = ByteArray.empty) => show signedM m = ByteArray.empty by unfold signedM; rw [if_pos h])
  have HS := hide (fun (h : ¬ bodyM m = ByteArray.empty) => show signedM m = makeV 11 0 [] [bodyM m, m.x11] by unfold signedM; rw [if_neg h])
  unfold MakePost at HBD
  generalize bodyM m = b at *
  generalize signedM m = sg at *
  obtain ⟨k, s, r, c, x4, x5, x6, x7, x8, x9, x10, x11, x12⟩ := m
  unfold Mg.cells at HBD ⊢
  simp only at HBD hx11 HS ⊢
  have HMB := hide (Blk.new w 29 #[.int .i64 k, .int .u32 (s : Nat), .int .u32 (r : Nat), .int .u64 (c : Nat), .string x4, .string x5, .string x6, .string x7, .string x8, .string x9, .string x10, .string x11, .string x12])
  have HO := hide ((Only.refl [] w).alloc (.cells #[.int .i64 k, .int .u32 (s : Nat), .int .u32 (r : Nat), .int .u64 (c : Nat), .string x4, .string x5, .string x6, .string x7, .string x8, .string x9, .string x10, .string x11, .string x12] 29))
  have HT := hide (htab.only HO.out (by simp))
  clear htab
  have m0 := HMB.out.cell 0; have m1 := HMB.out.cell 1; have m2 := HMB.out.cell 2; have m3 := HMB.out.cell 3; have m4 := HMB.out.cell 4; have m5 := HMB.out.cell 5; have m6 := HMB.out.cell 6; have m7 := HMB.out.cell 7; have m8 := HMB.out.cell 8; have m9 := HMB.out.cell 9; have m10 := HMB.out.cell 10; have m11 := HMB.out.cell 11; have m12 := HMB.out.cell 12; simp at m0 m1 m2 m3 m4 m5 m6 m7 m8 m9 m10 m11 m12
  clear hF
  by_cases hb : b = ByteArray.empty
  · have HV := hide (HE.out hb)
    have he : b.toList.isEmpty = true := by rw [hb]; kernel_rfl
    clear hb HE HS
    go_enter Tryz.func191, Tryz.ntmps191
    go_wp2_with (go_at_call 91; refine (HBD.out _ HT.out).mono ?_; rintro e v1 ⟨rfl, ho⟩; replace HO := hide (HO.out.trans ho); clear ho)
    go_ret
    exact makepost (HV.out.trans (by first | rfl | kernel_rfl)) HO.out
  · have HV := hide (HS.out hb)
    have he : b.toList.isEmpty = false := by
      cases h : b.toList.isEmpty with
      | false => rfl
      | true => exact absurd (toList_inj ((List.isEmpty_iff.1 h).trans (by kernel_rfl))) hb
    clear hb HE HS
    go_enter Tryz.func191, Tryz.ntmps191
    go_wp2_with (first
      | (go_at_call 91; refine (HBD.out _ HT.out).mono ?_; rintro e v1 ⟨rfl, ho⟩; replace HMB := hide (HMB.out.only ho (by simp)); replace HO := hide (HO.out.trans ho); replace HT := hide (HT.out.only ho (by simp)); clear ho m11; have m11 := HMB.out.cell 11; simp at m11)
      | (go_at_call 122; refine (make_new2 v1 HT.out _ rfl 11 (by decide) 0 (by omega) b x11 hbs hx11).mono ?_; rintro e v2 ⟨rfl, ho⟩; replace HO := hide (HO.out.trans ho); clear ho))
    go_ret
    exact makepost HV.out HO.out
end
end Go.Proofs.YtcokjoidpnfjhaaGreatDoor

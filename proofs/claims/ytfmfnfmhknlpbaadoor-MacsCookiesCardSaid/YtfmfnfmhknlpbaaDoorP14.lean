/-
  Walks and plain words for MacsCookies (texts Ag, La, Lm, Ws0, Ws1, Ws2, Ws, Mc0, Ck0, Ck1, Ck2). No condition beyond those that each theorem states.
-/
import Derived.Test.YtfmfnfmhknlpbaaDoorChecked
import Derived.StillTailTactics
import Derived.Deep.RegionHeld3
import Derived.Test.YtfmfnfmhknlpbaaDoorP13
namespace Go.Proofs.YtfmfnfmhknlpbaaDoor
section
open Go.RowKit Go.Deep

section calls
variable (w : World) (htab : Tab w)
include htab
theorem make_new2 (G : Nat) (hG : G = w.heap.size) (k : Int) (hk : (Lit.int .i64 k).wf = true) (n : Nat) (hn : n < 18446744073709551616) (x y : ByteArray) (hx : x.size ≤ maxLen) (hy : y.size ≤ maxLen) :
    Calls Tryd.prog 11 #[.int .i64 k, .int .u64 n, .slice none 0 0, .slice (some ⟨G, 0, none⟩) 2 2] (w.alloc (.cells #[.string x, .string y] 9)) (MakePost (makeV k n [] [x, y]) w) := by
  subst hG
  exact (Make_any k hk n hn _ _ [] [x, y] (fun p hp => by simp at hp; rcases hp with rfl | rfl <;> assumption) (w.alloc (.cells #[.string x, .string y] 9)) (Rd.nil _ _) (rd_new w 9 [] (strs [x, y]) (by simp) (by unfold maxLen; simp [strs])) (htab.only ((Only.refl [] w).alloc _) (by simp))).mono fun e w' h => ⟨h.1, ((Only.refl [] w).alloc _).trans h.2⟩
end calls
theorem makeR_new2 (w : World) (G : Nat) (hG : G = w.heap.size) (k : Int) (n : Nat) (hn : n < 18446744073709551616) (x y : ByteArray) (hx : x.size ≤ maxLen) (hy : y.size ≤ maxLen) :
    Calls Tryd.prog 18 #[.int .i64 k, .int .u64 n, .slice none 0 0, .slice (some ⟨G, 0, none⟩) 2 2] (w.alloc (.cells #[.string x, .string y] 9)) (MakePost (makeV k n [] [x, y]) w) := by
  subst hG
  exact (MakeR_any k n hn _ _ [] (by simp) [x, y] (by simp) (fun p hp => by simp at hp; rcases hp with rfl | rfl <;> assumption) (w.alloc (.cells #[.string x, .string y] 9)) (Rd.nil _ _) (rd_new w 9 [] (strs [x, y]) (by simp) (by unfold maxLen; simp [strs]))).mono fun e w' h => ⟨h.1, ((Only.refl [] w).alloc _).trans h.2⟩
end
section
open Go.RowKit Go.Deep

theorem undrew {S : List Nat} {w w' : World} (h : Only S w.drew w') : Only S w w' := ⟨h.os, h.tape, h.output, h.size, h.block⟩
end
section
open Go.RowKit Go.Deep

theorem make_size {k : Int} {n : Nat} {b : List UInt8} {l : List ByteArray} (hn : n < 18446744073709551616) (h : makeV k n b l ≠ ByteArray.empty) : (makeV k n b l).size ≤ 65536 := parse_size (make_read hn h)
end
section
open Go.RowKit Go.Deep

/-- The text of a number. -/
noncomputable def numT (n : Nat) : ByteArray := makeV 3 n [] []
/-- What Mac1 signs. -/
noncomputable def bodyM (m : Mg) : ByteArray :=
  if rightM m = true ∧ m.k ≤ 2 then makeV 11 0 [] ([numT m.k.toNat, numT m.s, numT m.r] ++ (textsM m).take ((textsM m).length - 2)) else ByteArray.empty
/-- What Mac2 signs. -/
noncomputable def signedM (m : Mg) : ByteArray := if bodyM m = ByteArray.empty then ByteArray.empty else makeV 11 0 [] [bodyM m, m.x11]
theorem make_size' (k : Int) (n : Nat) (b : List UInt8) (l : List ByteArray) (hn : n < 18446744073709551616) : (makeV k n b l).size ≤ maxLen := by
  by_cases h : makeV k n b l = ByteArray.empty
  · rw [h]; exact Nat.zero_le _
  · exact Nat.le_trans (make_size hn h) (by unfold maxLen; omega)
set_option maxRecDepth 100000 in
set_option maxHeartbeats 12800000 in
theorem NumberR_any (w : World) (n : Nat) (hn : n < 18446744073709551616) : Calls Tryd.prog 69 #[.int .u64 n] w (MakePost (numT n) w) := by
  have HM := hide (fun W => MakeR_any 3 n hn (.slice none 0 0) (.slice none 0 0) [] (by simp) [] (by simp) (by simp) W (Rd.nil _ _) (Rd.nil _ _))
  unfold MakePost at HM
  clear hn
  go_enter Tryd.func69, Tryd.ntmps69
  go_wp2_with (go_at_call 18; refine (HM.out _).mono ?_; rintro e w2 ⟨rfl, ho⟩; have HO := hide ho; clear ho)
  go_ret
  exact makepost rfl HO.out

theorem MacR_any (w : World) (x y : ByteArray) (hx : x.size ≤ maxLen) (hy : y.size ≤ maxLen) : Calls Tryd.prog 68 #[.string x, .string y] w (MakePost (makeV 9 0 [] [x, y]) w) := by
  go_enter Tryd.func68, Tryd.ntmps68
  go_wp2_with (go_at_call 18; refine (makeR_new2 _ _ rfl 9 0 (by omega) x y hx hy).mono ?_; rintro e w2 ⟨rfl, ho⟩; have HO := hide ho; clear ho)
  go_ret
  exact makepost rfl HO.out
end
section
open Go.RowKit Go.Deep

set_option maxRecDepth 100000 in
set_option maxHeartbeats 12800000 in
theorem Body_1 (w : World) (s r c : Nat) (x4 x5 x6 x7 x8 x9 x10 x11 x12 : ByteArray) (hF : (Mg.mk 1 s r c x4 x5 x6 x7 x8 x9 x10 x11 x12).Fine) (hR : rightM (Mg.mk 1 s r c x4 x5 x6 x7 x8 x9 x10 x11 x12) = true) (htab : Tab w) : Calls Tryd.prog 38 #[.agg #[.int .i64 1, .int .u32 (s : Nat), .int .u32 (r : Nat), .int .u64 (c : Nat), .string x4, .string x5, .string x6, .string x7, .string x8, .string x9, .string x10, .string x11, .string x12]] w (MakePost (bodyM (Mg.mk 1 s r c x4 x5 x6 x7 x8 x9 x10 x11 x12)) w) := by
  have HV := hide (show bodyM (Mg.mk 1 s r c x4 x5 x6 x7 x8 x9 x10 x11 x12) = makeV 11 0 [] ([numT 1, numT s, numT r] ++ [x4, x5, x6]) by unfold bodyM; rw [if_pos ⟨hR, by show (1 : Int) ≤ 2; omega⟩]; rfl)
  have HTM := hide (fun W => Terms_1 W s r c x4 x5 x6 x7 x8 x9 x10 x11 x12 hF)
  unfold TermsPost at HTM
  simp only [hR, if_true] at HTM
  obtain ⟨hs, hr, hc, hx4, hx5, hx6, hx7, hx8, hx9, hx10, hx11, hx12⟩ := hF
  simp only at hs hr hc hx4 hx5 hx6 hx7 hx8 hx9 hx10 hx11 hx12
  have hws : IntKind.u64.wrap (s : Int) = s := by rw [IntKind.wrap_u64]; omega
  have hwr : IntKind.u64.wrap (r : Int) = r := by rw [IntKind.wrap_u64]; omega
  obtain ⟨is, his, hs0, hs1, hs2⟩ := info_parts (show (Tryd.prog.info? 9).map (fun i => (i.zero, i.size, i.bytes)) = some (some (.string ByteArray.empty), 1, 16) by kernel_rfl)
  have HMB := hide (Blk.new w 53 #[.int .i64 1, .int .u32 (s : Nat), .int .u32 (r : Nat), .int .u64 (c : Nat), .string x4, .string x5, .string x6, .string x7, .string x8, .string x9, .string x10, .string x11, .string x12])
  have HO := hide ((Only.refl [] w).alloc (.cells #[.int .i64 1, .int .u32 (s : Nat), .int .u32 (r : Nat), .int .u64 (c : Nat), .string x4, .string x5, .string x6, .string x7, .string x8, .string x9, .string x10, .string x11, .string x12] 53))
  have HT := hide (htab.only HO.out (by simp))
  clear htab
  clear hR
  have m0 := HMB.out.cell 0; have m1 := HMB.out.cell 1; have m2 := HMB.out.cell 2; have m3 := HMB.out.cell 3; have m4 := HMB.out.cell 4; have m5 := HMB.out.cell 5; have m6 := HMB.out.cell 6; have m7 := HMB.out.cell 7; have m8 := HMB.out.cell 8; have m9 := HMB.out.cell 9; have m10 := HMB.out.cell 10; have m11 := HMB.out.cell 11; have m12 := HMB.out.cell 12; simp at m0 m1 m2 m3 m4 m5 m6 m7 m8 m9 m10 m11 m12
  go_enter Tryd.func38, Tryd.ntmps38
  go_upto_region 4 with (go_at_call 37; refine (HTM.out _).mono ?_; rintro e v1 ⟨ho, v, rfl, hrd⟩; obtain ⟨A, cap, hv, hcc, hmm⟩ := hrd.form; replace hv : v = .slice A 5 cap := hv; subst hv; replace hcc : 5 ≤ cap := hcc; have HRD := hide (show Rd v1 [] (.slice A 5 cap) (strs [x4, x5, x6, x11, x12]) from hrd); replace HMB := hide (HMB.out.only ho (by simp)); replace HO := hide (HO.out.trans ho); replace HT := hide (HT.out.only ho (by simp)); clear ho hrd m0 m1 m2 m3 m4 m5 m6 m7 m8 m9 m10 m11 m12; have m0 := HMB.out.cell 0; simp at m0)
  have hcI : (3 : Int) ≤ cap := by omega
  clear m0
  refine wp_region_held_drew (S := fun W => Only [] v1 W) (by kernel_rfl) (by exact (Only.refl [] v1).drew) (fun hHeld => ?_)
  refine wpAnyH_take (i := 0) (v := ?_) rfl (by kernel_rfl) (by kernel_rfl) (by kernel_rfl) (fun _ _ _ h => h) (Or.inl ⟨by rfl, ?_⟩) (by assumption) ?_
  rotate_left
  · (intro w hSw; (try dsimp only at hSw); go_simp; try with_reducible rfl)
  try simp only [List.getElem_toArray, List.getElem_cons_succ, List.getElem_cons_zero, Act.put, List.setIfInBounds_toArray, List.set_cons_zero, List.set_cons_succ]
  refine wpAnyH_take (i := 1) (v := ?_) rfl (by kernel_rfl) (by kernel_rfl) (by kernel_rfl) (fun _ _ _ h => h) (Or.inl ⟨by rfl, ?_⟩) (by assumption) ?_
  rotate_left
  · (intro w hSw; (try dsimp only at hSw); have HMw := HMB.out.only hSw (by simp); have m0 := (hide HMw).out.cell 0; simp at m0; go_simp; try with_reducible rfl)
  try simp only [List.getElem_toArray, List.getElem_cons_succ, List.getElem_cons_zero, Act.put, List.setIfInBounds_toArray, List.set_cons_zero, List.set_cons_succ]
  refine wpAnyH_take (i := 2) (v := ?_) rfl (by kernel_rfl) (by kernel_rfl) (by kernel_rfl) (fun _ _ _ h => h) (Or.inl ⟨by rfl, ?_⟩) (by assumption) ?_
  rotate_left
  · (intro w hSw; (try dsimp only at hSw); go_simp; try with_reducible rfl)
  try simp only [List.getElem_toArray, List.getElem_cons_succ, List.getElem_cons_zero, Act.put, List.setIfInBounds_toArray, List.set_cons_zero, List.set_cons_succ]
  refine wpAnyH_take (i := 4) (v := ?_) rfl (by kernel_rfl) (by kernel_rfl) (by kernel_rfl) (fun _ _ _ h => h) (Or.inl ⟨by rfl, ?_⟩) (by assumption) ?_
  rotate_left
  · (intro w hSw; (try dsimp only at hSw); go_simp; try with_reducible rfl)
  try simp only [List.getElem_toArray, List.getElem_cons_succ, List.getElem_cons_zero, Act.put, List.setIfInBounds_toArray, List.set_cons_zero, List.set_cons_succ]
  refine wpAnyH_take (i := 5) (v := ?_) rfl (by kernel_rfl) (by kernel_rfl) (by kernel_rfl) (fun _ _ _ h => h) (Or.inl ⟨by rfl, ?_⟩) (by assumption) ?_
  rotate_left
  · (intro w hSw; (try dsimp only at hSw); have HMw := HMB.out.only hSw (by simp); have m1 := (hide HMw).out.cell 1; simp at m1; go_simp; try with_reducible rfl)
  try simp only [List.getElem_toArray, List.getElem_cons_succ, List.getElem_cons_zero, Act.put, List.setIfInBounds_toArray, List.set_cons_zero, List.set_cons_succ]
  refine wpAnyH_take (i := 6) (v := ?_) rfl (by kernel_rfl) (by kernel_rfl) (by kernel_rfl) (fun _ _ _ h => h) (Or.inl ⟨by rfl, ?_⟩) (by assumption) ?_
  rotate_left
  · (intro w hSw; (try dsimp only at hSw); go_simp; try with_reducible rfl)
  try simp only [List.getElem_toArray, List.getElem_cons_succ, List.getElem_cons_zero, Act.put, List.setIfInBounds_toArray, List.set_cons_zero, List.set_cons_succ]
  refine wpAnyH_take (i := 8) (v := ?_) rfl (by kernel_rfl) (by kernel_rfl) (by kernel_rfl) (fun _ _ _ h => h) (Or.inl ⟨by rfl, ?_⟩) (by assumption) ?_
  rotate_left
  · (intro w hSw; (try dsimp only at hSw); go_simp; try with_reducible rfl)
  try simp only [List.getElem_toArray, List.getElem_cons_succ, List.getElem_cons_zero, Act.put, List.setIfInBounds_toArray, List.set_cons_zero, List.set_cons_succ]
  refine wpAnyH_take (i := 9) (v := ?_) rfl (by kernel_rfl) (by kernel_rfl) (by kernel_rfl) (fun _ _ _ h => h) (Or.inl ⟨by rfl, ?_⟩) (by assumption) ?_
  rotate_left
  · (intro w hSw; (try dsimp only at hSw); have HMw := HMB.out.only hSw (by simp); have m2 := (hide HMw).out.cell 2; simp at m2; go_simp; try with_reducible rfl)
  try simp only [List.getElem_toArray, List.getElem_cons_succ, List.getElem_cons_zero, Act.put, List.setIfInBounds_toArray, List.set_cons_zero, List.set_cons_succ]
  refine wpAnyH_take (i := 10) (v := ?_) rfl (by kernel_rfl) (by kernel_rfl) (by kernel_rfl) (fun _ _ _ h => h) (Or.inl ⟨by rfl, ?_⟩) (by assumption) ?_
  rotate_left
  · (intro w hSw; (try dsimp only at hSw); go_simp; try with_reducible rfl)
  try simp only [List.getElem_toArray, List.getElem_cons_succ, List.getElem_cons_zero, Act.put, List.setIfInBounds_toArray, List.set_cons_zero, List.set_cons_succ]
  refine wpAnyH_ready (rs := [3]) (by kernel_rfl) (by simp) ?_
  refine AllReadyH.cons rfl (fun K hK => ?_) AllReadyH.nil
  go_simp
  (go_at_call 11; refine (Make_any 3 (by decide) 1 (by omega) _ _ [] [] (by simp) _ (Rd.nil _ _) (Rd.nil _ _) (HT.out.only hHeld (by simp))).mono ?_; rintro e wz ⟨rfl, ho⟩)
  refine hK.out _ _ (by exact hHeld.trans ho) (fun hHeld => ?_)
  clear hK K ho
  try simp only [List.getElem_toArray, List.getElem_cons_succ, List.getElem_cons_zero, Act.put, List.setIfInBounds_toArray, List.set_cons_zero, List.set_cons_succ]
  refine wpAnyH_ready (rs := [7]) (by kernel_rfl) (by simp) ?_
  refine AllReadyH.cons rfl (fun K hK => ?_) AllReadyH.nil
  go_simp
  (go_at_call 11; refine (Make_any 3 (by decide) s (by omega) _ _ [] [] (by simp) _ (Rd.nil _ _) (Rd.nil _ _) (HT.out.only hHeld (by simp))).mono ?_; rintro e wz ⟨rfl, ho⟩)
  refine hK.out _ _ (by exact hHeld.trans ho) (fun hHeld => ?_)
  clear hK K ho
  try simp only [List.getElem_toArray, List.getElem_cons_succ, List.getElem_cons_zero, Act.put, List.setIfInBounds_toArray, List.set_cons_zero, List.set_cons_succ]
  refine wpAnyH_ready (rs := [11]) (by kernel_rfl) (by simp) ?_
  refine AllReadyH.cons rfl (fun K hK => ?_) AllReadyH.nil
  go_simp
  (go_at_call 11; refine (Make_any 3 (by decide) r (by omega) _ _ [] [] (by simp) _ (Rd.nil _ _) (Rd.nil _ _) (HT.out.only hHeld (by simp))).mono ?_; rintro e wz ⟨rfl, ho⟩)
  refine hK.out _ _ (by exact hHeld.trans ho) (fun hHeld => ?_)
  clear hK K ho
  try simp only [List.getElem_toArray, List.getElem_cons_succ, List.getElem_cons_zero, Act.put, List.setIfInBounds_toArray, List.set_cons_zero, List.set_cons_succ]
  refine wpAnyH_ready (rs := [12]) (by kernel_rfl) (by simp) ?_
  refine AllReadyH.cons rfl (fun K hK => ?_) AllReadyH.nil
  go_simp
  have HZ0 := hide hHeld.size
  refine hK.out _ _ (by exact hHeld.alloc _) (fun hHeld => ?_)
  clear hK K
  try simp only [List.getElem_toArray, List.getElem_cons_succ, List.getElem_cons_zero, Act.put, List.setIfInBounds_toArray, List.set_cons_zero, List.set_cons_succ]
  refine wpAnyH_take (i := 13) (v := ?_) rfl (by kernel_rfl) (by kernel_rfl) (by kernel_rfl) (fun _ _ _ h => h) (Or.inl ⟨by rfl, ?_⟩) (by assumption) ?_
  rotate_left
  · (intro w hSw; (try dsimp only at hSw); go_simp; try with_reducible rfl)
  try simp only [List.getElem_toArray, List.getElem_cons_succ, List.getElem_cons_zero, Act.put, List.setIfInBounds_toArray, List.set_cons_zero, List.set_cons_succ]
  refine wpAnyH_done (by kernel_rfl) ?_ _
  have hz1 := make_size' 3 1 [] [] (by omega)
  have hz2 := make_size' 3 s [] [] (by omega)
  have hz3 := make_size' 3 r [] [] (by omega)
  have HOW := hide (show (wz.alloc (.cells #[.string (makeV 3 1 [] []), .string (makeV 3 s [] []), .string (makeV 3 r [] [])] 9)).ownsRow wz.heap.size 9 1 (.slice (some ⟨wz.heap.size, 0, none⟩) 3 3) 3 (strs [numT 1, numT s, numT r]) from World.ownsRow_lit wz #[.string (makeV 3 1 [] []), .string (makeV 3 s [] []), .string (makeV 3 r [] [])] 3 (Nat.le_refl _) (by unfold maxLen; omega) rfl)
  have HHD := hide hHeld
  have HRT := hide (show Rd (wz.alloc (.cells #[.string (makeV 3 1 [] []), .string (makeV 3 s [] []), .string (makeV 3 r [] [])] 9)) [] (.slice A 3 cap) (strs [x4, x5, x6]) from (HRD.out.only hHeld (by simp)).take 3 (by omega))
  have HSZ := hide (show wz.heap.size ≤ (wz.alloc (.cells #[.string (makeV 3 1 [] []), .string (makeV 3 s [] []), .string (makeV 3 r [] [])] 9)).heap.size by simp)
  have HBZ := hide (show v1.heap.size ≤ wz.heap.size from HZ0.out)
  generalize (wz.alloc (.cells #[.string (makeV 3 1 [] []), .string (makeV 3 s [] []), .string (makeV 3 r [] [])] 9)) = wp at *
  have HPS := hide (show ∀ p ∈ [numT 1, numT s, numT r] ++ [x4, x5, x6], p.size ≤ maxLen by intro p hp; simp at hp; rcases hp with rfl | rfl | rfl | rfl | rfl | rfl; all_goals assumption)
  go_wp2_with (first | (at_builtin; refine wpList_append_any _ rfl (.tmp 33) (.tmp 38) 31 rfl wz.heap.size 9 is (.string ByteArray.empty) 1 16 Tryd.underlying31 his hs0 hs1 hs2 rfl (by decide) _ 3 _ rfl HOW.out wp.heap.size A 3 cap (strs [x4, x5, x6]) rfl HRT.out.reads (by intro u hu; obtain ⟨x, _, rfl⟩ := List.mem_map.1 hu; rfl) (by unfold maxLen; omega) (by omega) HSZ.out ?_; intro vv w3 hown1 hg1 _; have HOW3 := hide (show w3.ownsRow wz.heap.size 9 1 vv 6 (strs ([numT 1, numT s, numT r] ++ [x4, x5, x6])) from hown1); have HO3 := hide (show Only [] v1 w3 from HHD.out.grown hg1 (fun jj hjj => .inr (by have := own_block_ge HOW.out hjj; have := HBZ.out; omega))); clear hown1 hg1; obtain ⟨Av, cv, rfl, _, _⟩ := own_form HOW3.out) | (go_at_call 11; refine (Make_any 11 (by decide) 0 (by omega) _ _ [] ([numT 1, numT s, numT r] ++ [x4, x5, x6]) HPS.out _ (Rd.nil _ _) (Rd.of_own (N := []) HOW3.out (by simp)).1 (HT.out.only HO3.out (by simp))).mono ?_; rintro e wm ⟨rfl, ho⟩; have HOF := hide ((HO.out.trans HO3.out).trans ho); clear ho))
  go_ret
  exact makepost HV.out HOF.out
end
section
open Go.RowKit Go.Deep

set_option maxRecDepth 100000 in
set_option maxHeartbeats 12800000 in
theorem Body_2 (w : World) (s r c : Nat) (x4 x5 x6 x7 x8 x9 x10 x11 x12 : ByteArray) (hF : (Mg.mk 2 s r c x4 x5 x6 x7 x8 x9 x10 x11 x12).Fine) (hR : rightM (Mg.mk 2 s r c x4 x5 x6 x7 x8 x9 x10 x11 x12) = true) (htab : Tab w) : Calls Tryd.prog 38 #[.agg #[.int .i64 2, .int .u32 (s : Nat), .int .u32 (r : Nat), .int .u64 (c : Nat), .string x4, .string x5, .string x6, .string x7, .string x8, .string x9, .string x10, .string x11, .string x12]] w (MakePost (bodyM (Mg.mk 2 s r c x4 x5 x6 x7 x8 x9 x10 x11 x12)) w) := by
  have HV := hide (show bodyM (Mg.mk 2 s r c x4 x5 x6 x7 x8 x9 x10 x11 x12) = makeV 11 0 [] ([numT 2, numT s, numT r] ++ [x4, x7]) by unfold bodyM; rw [if_pos ⟨hR, by show (2 : Int) ≤ 2; omega⟩]; rfl)
  have HTM := hide (fun W => Terms_2 W s r c x4 x5 x6 x7 x8 x9 x10 x11 x12 hF)
  unfold TermsPost at HTM
  simp only [hR, if_true] at HTM
  obtain ⟨hs, hr, hc, hx4, hx5, hx6, hx7, hx8, hx9, hx10, hx11, hx12⟩ := hF
  simp only at hs hr hc hx4 hx5 hx6 hx7 hx8 hx9 hx10 hx11 hx12
  have hws : IntKind.u64.wrap (s : Int) = s := by rw [IntKind.wrap_u64]; omega
  have hwr : IntKind.u64.wrap (r : Int) = r := by rw [IntKind.wrap_u64]; omega
  obtain ⟨is, his, hs0, hs1, hs2⟩ := info_parts (show (Tryd.prog.info? 9).map (fun i => (i.zero, i.size, i.bytes)) = some (some (.string ByteArray.empty), 1, 16) by kernel_rfl)
  have HMB := hide (Blk.new w 53 #[.int .i64 2, .int .u32 (s : Nat), .int .u32 (r : Nat), .int .u64 (c : Nat), .string x4, .string x5, .string x6, .string x7, .string x8, .string x9, .string x10, .string x11, .string x12])
  have HO := hide ((Only.refl [] w).alloc (.cells #[.int .i64 2, .int .u32 (s : Nat), .int .u32 (r : Nat), .int .u64 (c : Nat), .string x4, .string x5, .string x6, .string x7, .string x8, .string x9, .string x10, .string x11, .string x12] 53))
  have HT := hide (htab.only HO.out (by simp))
  clear htab
  clear hR
  have m0 := HMB.out.cell 0; have m1 := HMB.out.cell 1; have m2 := HMB.out.cell 2; have m3 := HMB.out.cell 3; have m4 := HMB.out.cell 4; have m5 := HMB.out.cell 5; have m6 := HMB.out.cell 6; have m7 := HMB.out.cell 7; have m8 := HMB.out.cell 8; have m9 := HMB.out.cell 9; have m10 := HMB.out.cell 10; have m11 := HMB.out.cell 11; have m12 := HMB.out.cell 12; simp at m0 m1 m2 m3 m4 m5 m6 m7 m8 m9 m10 m11 m12
  go_enter Tryd.func38, Tryd.ntmps38
  go_upto_region 4 with (go_at_call 37; refine (HTM.out _).mono ?_; rintro e v1 ⟨ho, v, rfl, hrd⟩; obtain ⟨A, cap, hv, hcc, hmm⟩ := hrd.form; replace hv : v = .slice A 4 cap := hv; subst hv; replace hcc : 4 ≤ cap := hcc; have HRD := hide (show Rd v1 [] (.slice A 4 cap) (strs [x4, x7, x11, x12]) from hrd); replace HMB := hide (HMB.out.only ho (by simp)); replace HO := hide (HO.out.trans ho); replace HT := hide (HT.out.only ho (by simp)); clear ho hrd m0 m1 m2 m3 m4 m5 m6 m7 m8 m9 m10 m11 m12; have m0 := HMB.out.cell 0; simp at m0)
  have hcI : (2 : Int) ≤ cap := by omega
  clear m0
  refine wp_region_held_drew (S := fun W => Only [] v1 W) (by kernel_rfl) (by exact (Only.refl [] v1).drew) (fun hHeld => ?_)
  refine wpAnyH_take (i := 0) (v := ?_) rfl (by kernel_rfl) (by kernel_rfl) (by kernel_rfl) (fun _ _ _ h => h) (Or.inl ⟨by rfl, ?_⟩) (by assumption) ?_
  rotate_left
  · (intro w hSw; (try dsimp only at hSw); go_simp; try with_reducible rfl)
  try simp only [List.getElem_toArray, List.getElem_cons_succ, List.getElem_cons_zero, Act.put, List.setIfInBounds_toArray, List.set_cons_zero, List.set_cons_succ]
  refine wpAnyH_take (i := 1) (v := ?_) rfl (by kernel_rfl) (by kernel_rfl) (by kernel_rfl) (fun _ _ _ h => h) (Or.inl ⟨by rfl, ?_⟩) (by assumption) ?_
  rotate_left
  · (intro w hSw; (try dsimp only at hSw); have HMw := HMB.out.only hSw (by simp); have m0 := (hide HMw).out.cell 0; simp at m0; go_simp; try with_reducible rfl)
  try simp only [List.getElem_toArray, List.getElem_cons_succ, List.getElem_cons_zero, Act.put, List.setIfInBounds_toArray, List.set_cons_zero, List.set_cons_succ]
  refine wpAnyH_take (i := 2) (v := ?_) rfl (by kernel_rfl) (by kernel_rfl) (by kernel_rfl) (fun _ _ _ h => h) (Or.inl ⟨by rfl, ?_⟩) (by assumption) ?_
  rotate_left
  · (intro w hSw; (try dsimp only at hSw); go_simp; try with_reducible rfl)
  try simp only [List.getElem_toArray, List.getElem_cons_succ, List.getElem_cons_zero, Act.put, List.setIfInBounds_toArray, List.set_cons_zero, List.set_cons_succ]
  refine wpAnyH_take (i := 4) (v := ?_) rfl (by kernel_rfl) (by kernel_rfl) (by kernel_rfl) (fun _ _ _ h => h) (Or.inl ⟨by rfl, ?_⟩) (by assumption) ?_
  rotate_left
  · (intro w hSw; (try dsimp only at hSw); go_simp; try with_reducible rfl)
  try simp only [List.getElem_toArray, List.getElem_cons_succ, List.getElem_cons_zero, Act.put, List.setIfInBounds_toArray, List.set_cons_zero, List.set_cons_succ]
  refine wpAnyH_take (i := 5) (v := ?_) rfl (by kernel_rfl) (by kernel_rfl) (by kernel_rfl) (fun _ _ _ h => h) (Or.inl ⟨by rfl, ?_⟩) (by assumption) ?_
  rotate_left
  · (intro w hSw; (try dsimp only at hSw); have HMw := HMB.out.only hSw (by simp); have m1 := (hide HMw).out.cell 1; simp at m1; go_simp; try with_reducible rfl)
  try simp only [List.getElem_toArray, List.getElem_cons_succ, List.getElem_cons_zero, Act.put, List.setIfInBounds_toArray, List.set_cons_zero, List.set_cons_succ]
  refine wpAnyH_take (i := 6) (v := ?_) rfl (by kernel_rfl) (by kernel_rfl) (by kernel_rfl) (fun _ _ _ h => h) (Or.inl ⟨by rfl, ?_⟩) (by assumption) ?_
  rotate_left
  · (intro w hSw; (try dsimp only at hSw); go_simp; try with_reducible rfl)
  try simp only [List.getElem_toArray, List.getElem_cons_succ, List.getElem_cons_zero, Act.put, List.setIfInBounds_toArray, List.set_cons_zero, List.set_cons_succ]
  refine wpAnyH_take (i := 8) (v := ?_) rfl (by kernel_rfl) (by kernel_rfl) (by kernel_rfl) (fun _ _ _ h => h) (Or.inl ⟨by rfl, ?_⟩) (by assumption) ?_
  rotate_left
  · (intro w hSw; (try dsimp only at hSw); go_simp; try with_reducible rfl)
  try simp only [List.getElem_toArray, List.getElem_cons_succ, List.getElem_cons_zero, Act.put, List.setIfInBounds_toArray, List.set_cons_zero, List.set_cons_succ]
  refine wpAnyH_take (i := 9) (v := ?_) rfl (by kernel_rfl) (by kernel_rfl) (by kernel_rfl) (fun _ _ _ h => h) (Or.inl ⟨by rfl, ?_⟩) (by assumption) ?_
  rotate_left
  · (intro w hSw; (try dsimp only at hSw); have HMw := HMB.out.only hSw (by simp); have m2 := (hide HMw).out.cell 2; simp at m2; go_simp; try with_reducible rfl)
  try simp only [List.getElem_toArray, List.getElem_cons_succ, List.getElem_cons_zero, Act.put, List.setIfInBounds_toArray, List.set_cons_zero, List.set_cons_succ]
  refine wpAnyH_take (i := 10) (v := ?_) rfl (by kernel_rfl) (by kernel_rfl) (by kernel_rfl) (fun _ _ _ h => h) (Or.inl ⟨by rfl, ?_⟩) (by assumption) ?_
  rotate_left
  · (intro w hSw; (try dsimp only at hSw); go_simp; try with_reducible rfl)
  try simp only [List.getElem_toArray, List.getElem_cons_succ, List.getElem_cons_zero, Act.put, List.setIfInBounds_toArray, List.set_cons_zero, List.set_cons_succ]
  refine wpAnyH_ready (rs := [3]) (by kernel_rfl) (by simp) ?_
  refine AllReadyH.cons rfl (fun K hK => ?_) AllReadyH.nil
  go_simp
  (go_at_call 11; refine (Make_any 3 (by decide) 2 (by omega) _ _ [] [] (by simp) _ (Rd.nil _ _) (Rd.nil _ _) (HT.out.only hHeld (by simp))).mono ?_; rintro e wz ⟨rfl, ho⟩)
  refine hK.out _ _ (by exact hHeld.trans ho) (fun hHeld => ?_)
  clear hK K ho
  try simp only [List.getElem_toArray, List.getElem_cons_succ, List.getElem_cons_zero, Act.put, List.setIfInBounds_toArray, List.set_cons_zero, List.set_cons_succ]
  refine wpAnyH_ready (rs := [7]) (by kernel_rfl) (by simp) ?_
  refine AllReadyH.cons rfl (fun K hK => ?_) AllReadyH.nil
  go_simp
  (go_at_call 11; refine (Make_any 3 (by decide) s (by omega) _ _ [] [] (by simp) _ (Rd.nil _ _) (Rd.nil _ _) (HT.out.only hHeld (by simp))).mono ?_; rintro e wz ⟨rfl, ho⟩)
  refine hK.out _ _ (by exact hHeld.trans ho) (fun hHeld => ?_)
  clear hK K ho
  try simp only [List.getElem_toArray, List.getElem_cons_succ, List.getElem_cons_zero, Act.put, List.setIfInBounds_toArray, List.set_cons_zero, List.set_cons_succ]
  refine wpAnyH_ready (rs := [11]) (by kernel_rfl) (by simp) ?_
  refine AllReadyH.cons rfl (fun K hK => ?_) AllReadyH.nil
  go_simp
  (go_at_call 11; refine (Make_any 3 (by decide) r (by omega) _ _ [] [] (by simp) _ (Rd.nil _ _) (Rd.nil _ _) (HT.out.only hHeld (by simp))).mono ?_; rintro e wz ⟨rfl, ho⟩)
  refine hK.out _ _ (by exact hHeld.trans ho) (fun hHeld => ?_)
  clear hK K ho
  try simp only [List.getElem_toArray, List.getElem_cons_succ, List.getElem_cons_zero, Act.put, List.setIfInBounds_toArray, List.set_cons_zero, List.set_cons_succ]
  refine wpAnyH_ready (rs := [12]) (by kernel_rfl) (by simp) ?_
  refine AllReadyH.cons rfl (fun K hK => ?_) AllReadyH.nil
  go_simp
  have HZ0 := hide hHeld.size
  refine hK.out _ _ (by exact hHeld.alloc _) (fun hHeld => ?_)
  clear hK K
  try simp only [List.getElem_toArray, List.getElem_cons_succ, List.getElem_cons_zero, Act.put, List.setIfInBounds_toArray, List.set_cons_zero, List.set_cons_succ]
  refine wpAnyH_take (i := 13) (v := ?_) rfl (by kernel_rfl) (by kernel_rfl) (by kernel_rfl) (fun _ _ _ h => h) (Or.inl ⟨by rfl, ?_⟩) (by assumption) ?_
  rotate_left
  · (intro w hSw; (try dsimp only at hSw); go_simp; try with_reducible rfl)
  try simp only [List.getElem_toArray, List.getElem_cons_succ, List.getElem_cons_zero, Act.put, List.setIfInBounds_toArray, List.set_cons_zero, List.set_cons_succ]
  refine wpAnyH_done (by kernel_rfl) ?_ _
  have hz1 := make_size' 3 2 [] [] (by omega)
  have hz2 := make_size' 3 s [] [] (by omega)
  have hz3 := make_size' 3 r [] [] (by omega)
  have HOW := hide (show (wz.alloc (.cells #[.string (makeV 3 2 [] []), .string (makeV 3 s [] []), .string (makeV 3 r [] [])] 9)).ownsRow wz.heap.size 9 1 (.slice (some ⟨wz.heap.size, 0, none⟩) 3 3) 3 (strs [numT 2, numT s, numT r]) from World.ownsRow_lit wz #[.string (makeV 3 2 [] []), .string (makeV 3 s [] []), .string (makeV 3 r [] [])] 3 (Nat.le_refl _) (by unfold maxLen; omega) rfl)
  have HHD := hide hHeld
  have HRT := hide (show Rd (wz.alloc (.cells #[.string (makeV 3 2 [] []), .string (makeV 3 s [] []), .string (makeV 3 r [] [])] 9)) [] (.slice A 2 cap) (strs [x4, x7]) from (HRD.out.only hHeld (by simp)).take 2 (by omega))
  have HSZ := hide (show wz.heap.size ≤ (wz.alloc (.cells #[.string (makeV 3 2 [] []), .string (makeV 3 s [] []), .string (makeV 3 r [] [])] 9)).heap.size by simp)
  have HBZ := hide (show v1.heap.size ≤ wz.heap.size from HZ0.out)
  generalize (wz.alloc (.cells #[.string (makeV 3 2 [] []), .string (makeV 3 s [] []), .string (makeV 3 r [] [])] 9)) = wp at *
  have HPS := hide (show ∀ p ∈ [numT 2, numT s, numT r] ++ [x4, x7], p.size ≤ maxLen by intro p hp; simp at hp; rcases hp with rfl | rfl | rfl | rfl | rfl; all_goals assumption)
  go_wp2_with (first | (at_builtin; refine wpList_append_any _ rfl (.tmp 33) (.tmp 38) 31 rfl wz.heap.size 9 is (.string ByteArray.empty) 1 16 Tryd.underlying31 his hs0 hs1 hs2 rfl (by decide) _ 3 _ rfl HOW.out wp.heap.size A 2 cap (strs [x4, x7]) rfl HRT.out.reads (by intro u hu; obtain ⟨x, _, rfl⟩ := List.mem_map.1 hu; rfl) (by unfold maxLen; omega) (by omega) HSZ.out ?_; intro vv w3 hown1 hg1 _; have HOW3 := hide (show w3.ownsRow wz.heap.size 9 1 vv 5 (strs ([numT 2, numT s, numT r] ++ [x4, x7])) from hown1); have HO3 := hide (show Only [] v1 w3 from HHD.out.grown hg1 (fun jj hjj => .inr (by have := own_block_ge HOW.out hjj; have := HBZ.out; omega))); clear hown1 hg1; obtain ⟨Av, cv, rfl, _, _⟩ := own_form HOW3.out) | (go_at_call 11; refine (Make_any 11 (by decide) 0 (by omega) _ _ [] ([numT 2, numT s, numT r] ++ [x4, x7]) HPS.out _ (Rd.nil _ _) (Rd.of_own (N := []) HOW3.out (by simp)).1 (HT.out.only HO3.out (by simp))).mono ?_; rintro e wm ⟨rfl, ho⟩; have HOF := hide ((HO.out.trans HO3.out).trans ho); clear ho))
  go_ret
  exact makepost HV.out HOF.out
end
section
open Go.RowKit Go.Deep

theorem body_none {m : Mg} (h : rightM m = false ∨ 2 < m.k) : bodyM m = ByteArray.empty := by
  unfold bodyM
  rw [if_neg]
  rintro ⟨h1, h2⟩
  rcases h with h | h
  · rw [h] at h1; cases h1
  · omega
set_option maxRecDepth 100000 in
set_option maxHeartbeats 12800000 in
theorem Body_no (w : World) (m : Mg) (hF : m.Fine) (hR : rightM m = false) : Calls Tryd.prog 38 #[.agg m.cells] w (MakePost (bodyM m) w) := by
  have HV := hide (body_none (.inl hR))
  have HTM := hide (fun W => Terms_any W m hF)
  unfold TermsPost at HTM
  simp only [hR, Bool.false_eq_true, if_false] at HTM
  obtain ⟨k, s, r, c, x4, x5, x6, x7, x8, x9, x10, x11, x12⟩ := m
  unfold Mg.cells at HTM ⊢
  simp only at HTM ⊢
  have HMB := hide (Blk.new w 53 #[.int .i64 k, .int .u32 (s : Nat), .int .u32 (r : Nat), .int .u64 (c : Nat), .string x4, .string x5, .string x6, .string x7, .string x8, .string x9, .string x10, .string x11, .string x12])
  have HO := hide ((Only.refl [] w).alloc (.cells #[.int .i64 k, .int .u32 (s : Nat), .int .u32 (r : Nat), .int .u64 (c : Nat), .string x4, .string x5, .string x6, .string x7, .string x8, .string x9, .string x10, .string x11, .string x12] 53))
  have m0 := HMB.out.cell 0; have m1 := HMB.out.cell 1; have m2 := HMB.out.cell 2; have m3 := HMB.out.cell 3; have m4 := HMB.out.cell 4; have m5 := HMB.out.cell 5; have m6 := HMB.out.cell 6; have m7 := HMB.out.cell 7; have m8 := HMB.out.cell 8; have m9 := HMB.out.cell 9; have m10 := HMB.out.cell 10; have m11 := HMB.out.cell 11; have m12 := HMB.out.cell 12; simp at m0 m1 m2 m3 m4 m5 m6 m7 m8 m9 m10 m11 m12
  clear hF hR
  go_enter Tryd.func38, Tryd.ntmps38
  go_wp2_with (go_at_call 37; refine (HTM.out _).mono ?_; rintro e v1 ⟨ho, rfl⟩; replace HO := hide (HO.out.trans ho); clear ho)
  go_ret
  exact makepost HV.out HO.out
set_option maxRecDepth 100000 in
set_option maxHeartbeats 12800000 in
theorem Body_3 (w : World) (s r c : Nat) (x4 x5 x6 x7 x8 x9 x10 x11 x12 : ByteArray) (hF : (Mg.mk 3 s r c x4 x5 x6 x7 x8 x9 x10 x11 x12).Fine) (hR : rightM (Mg.mk 3 s r c x4 x5 x6 x7 x8 x9 x10 x11 x12) = true) : Calls Tryd.prog 38 #[.agg #[.int .i64 3, .int .u32 (s : Nat), .int .u32 (r : Nat), .int .u64 (c : Nat), .string x4, .string x5, .string x6, .string x7, .string x8, .string x9, .string x10, .string x11, .string x12]] w (MakePost (bodyM (Mg.mk 3 s r c x4 x5 x6 x7 x8 x9 x10 x11 x12)) w) := by
  have HV := hide (body_none (m := (Mg.mk 3 s r c x4 x5 x6 x7 x8 x9 x10 x11 x12)) (.inr (by show (2 : Int) < 3; omega)))
  have HTM := hide (fun W => Terms_3 W s r c x4 x5 x6 x7 x8 x9 x10 x11 x12 hF)
  unfold TermsPost at HTM
  simp only [hR, if_true] at HTM
  have HMB := hide (Blk.new w 53 #[.int .i64 3, .int .u32 (s : Nat), .int .u32 (r : Nat), .int .u64 (c : Nat), .string x4, .string x5, .string x6, .string x7, .string x8, .string x9, .string x10, .string x11, .string x12])
  have HO := hide ((Only.refl [] w).alloc (.cells #[.int .i64 3, .int .u32 (s : Nat), .int .u32 (r : Nat), .int .u64 (c : Nat), .string x4, .string x5, .string x6, .string x7, .string x8, .string x9, .string x10, .string x11, .string x12] 53))
  have m0 := HMB.out.cell 0; have m1 := HMB.out.cell 1; have m2 := HMB.out.cell 2; have m3 := HMB.out.cell 3; have m4 := HMB.out.cell 4; have m5 := HMB.out.cell 5; have m6 := HMB.out.cell 6; have m7 := HMB.out.cell 7; have m8 := HMB.out.cell 8; have m9 := HMB.out.cell 9; have m10 := HMB.out.cell 10; have m11 := HMB.out.cell 11; have m12 := HMB.out.cell 12; simp at m0 m1 m2 m3 m4 m5 m6 m7 m8 m9 m10 m11 m12
  clear hF hR
  go_enter Tryd.func38, Tryd.ntmps38
  go_wp2_with (go_at_call 37; refine (HTM.out _).mono ?_; rintro e v1 ⟨ho, v, rfl, hrd⟩; obtain ⟨A, cap, hv, hcc, hmm⟩ := hrd.form; replace hv : v = .slice A 2 cap := hv; subst hv; replace HMB := hide (HMB.out.only ho (by simp)); replace HO := hide (HO.out.trans ho); clear ho hrd hcc hmm m0; have m0 := HMB.out.cell 0; simp at m0)
  go_ret
  exact makepost HV.out HO.out
set_option maxRecDepth 100000 in
set_option maxHeartbeats 12800000 in
theorem Body_4 (w : World) (s r c : Nat) (x4 x5 x6 x7 x8 x9 x10 x11 x12 : ByteArray) (hF : (Mg.mk 4 s r c x4 x5 x6 x7 x8 x9 x10 x11 x12).Fine) (hR : rightM (Mg.mk 4 s r c x4 x5 x6 x7 x8 x9 x10 x11 x12) = true) : Calls Tryd.prog 38 #[.agg #[.int .i64 4, .int .u32 (s : Nat), .int .u32 (r : Nat), .int .u64 (c : Nat), .string x4, .string x5, .string x6, .string x7, .string x8, .string x9, .string x10, .string x11, .string x12]] w (MakePost (bodyM (Mg.mk 4 s r c x4 x5 x6 x7 x8 x9 x10 x11 x12)) w) := by
  have HV := hide (body_none (m := (Mg.mk 4 s r c x4 x5 x6 x7 x8 x9 x10 x11 x12)) (.inr (by show (2 : Int) < 4; omega)))
  have HTM := hide (fun W => Terms_4 W s r c x4 x5 x6 x7 x8 x9 x10 x11 x12 hF)
  unfold TermsPost at HTM
  simp only [hR, if_true] at HTM
  have HMB := hide (Blk.new w 53 #[.int .i64 4, .int .u32 (s : Nat), .int .u32 (r : Nat), .int .u64 (c : Nat), .string x4, .string x5, .string x6, .string x7, .string x8, .string x9, .string x10, .string x11, .string x12])
  have HO := hide ((Only.refl [] w).alloc (.cells #[.int .i64 4, .int .u32 (s : Nat), .int .u32 (r : Nat), .int .u64 (c : Nat), .string x4, .string x5, .string x6, .string x7, .string x8, .string x9, .string x10, .string x11, .string x12] 53))
  have m0 := HMB.out.cell 0; have m1 := HMB.out.cell 1; have m2 := HMB.out.cell 2; have m3 := HMB.out.cell 3; have m4 := HMB.out.cell 4; have m5 := HMB.out.cell 5; have m6 := HMB.out.cell 6; have m7 := HMB.out.cell 7; have m8 := HMB.out.cell 8; have m9 := HMB.out.cell 9; have m10 := HMB.out.cell 10; have m11 := HMB.out.cell 11; have m12 := HMB.out.cell 12; simp at m0 m1 m2 m3 m4 m5 m6 m7 m8 m9 m10 m11 m12
  clear hF hR
  go_enter Tryd.func38, Tryd.ntmps38
  go_wp2_with (go_at_call 37; refine (HTM.out _).mono ?_; rintro e v1 ⟨ho, v, rfl, hrd⟩; obtain ⟨A, cap, hv, hcc, hmm⟩ := hrd.form; replace hv : v = .slice A 1 cap := hv; subst hv; replace HMB := hide (HMB.out.only ho (by simp)); replace HO := hide (HO.out.trans ho); clear ho hrd hcc hmm m0; have m0 := HMB.out.cell 0; simp at m0)
  go_ret
  exact makepost HV.out HO.out
theorem Body_any (w : World) (m : Mg) (hF : m.Fine) (htab : Tab w) : Calls Tryd.prog 38 #[.agg m.cells] w (MakePost (bodyM m) w) := by
  cases hR : rightM m with
  | false => exact Body_no w m hF hR
  | true =>
    obtain ⟨k, s, r, c, x4, x5, x6, x7, x8, x9, x10, x11, x12⟩ := m
    rcases kinds k with rfl | rfl | rfl | rfl | h
    · exact Body_1 w s r c x4 x5 x6 x7 x8 x9 x10 x11 x12 hF hR htab
    · exact Body_2 w s r c x4 x5 x6 x7 x8 x9 x10 x11 x12 hF hR htab
    · exact Body_3 w s r c x4 x5 x6 x7 x8 x9 x10 x11 x12 hF hR
    · exact Body_4 w s r c x4 x5 x6 x7 x8 x9 x10 x11 x12 hF hR
    · rw [right_none h] at hR; cases hR
theorem body_size (m : Mg) : (bodyM m).size ≤ maxLen := by
  unfold bodyM
  split
  · exact make_size' _ _ _ _ (by omega)
  · exact Nat.zero_le _
end
section
open Go.RowKit Go.Deep

noncomputable def doorT (p : ByteArray) : ByteArray := makeV 7 0 [] [⟨#[120, 54, 100, 54, 49, 54, 51, 51, 49]⟩, p]
noncomputable def sumT (k u : ByteArray) : ByteArray := makeV 9 0 [] [k, u]
def startsM (m : Mg) : Bool := decide (m.k ≤ 2) && rightM m
theorem door_size (p : ByteArray) : (doorT p).size ≤ maxLen := make_size' _ _ _ _ (by omega)
theorem sum_size (k u : ByteArray) : (sumT k u).size ≤ maxLen := make_size' _ _ _ _ (by omega)
set_option maxRecDepth 100000 in
set_option maxHeartbeats 12800000 in
theorem sum_any (w : World) (k u : ByteArray) (hk : k.size ≤ maxLen) (hu : u.size ≤ maxLen) (htab : Tab w) : Calls Tryd.prog 67 #[.string k, .string u] w (MakePost (sumT k u) w) := by
  have HT := hide htab
  clear htab
  go_enter Tryd.func67, Tryd.ntmps67
  go_wp2_with (go_at_call 11; refine (make_new2 _ HT.out _ rfl 9 (by decide) 0 (by omega) k u hk hu).mono ?_; rintro e w2 ⟨rfl, ho⟩; have HO := hide ho; clear ho)
  go_ret
  exact makepost rfl HO.out
set_option maxRecDepth 100000 in
set_option maxHeartbeats 12800000 in
theorem door_any (w : World) (p : ByteArray) (hp : p.size ≤ maxLen) (htab : Tab w) : Calls Tryd.prog 100 #[.string p] w (MakePost (doorT p) w) := by
  have HT := hide htab
  clear htab
  go_enter Tryd.func100, Tryd.ntmps100
  go_wp2_with (go_at_call 11; refine (make_new2 _ HT.out _ rfl 7 (by decide) 0 (by omega) ⟨#[120, 54, 100, 54, 49, 54, 51, 51, 49]⟩ p (by unfold maxLen; show 9 ≤ _; omega) hp).mono ?_; rintro e w2 ⟨rfl, ho⟩; have HO := hide ho; clear ho)
  go_ret
  exact makepost rfl HO.out
set_option maxRecDepth 100000 in
set_option maxHeartbeats 12800000 in
theorem starts_any (w : World) (m : Mg) (hF : m.Fine) (hk0 : -9223372036854775808 ≤ m.k) : Calls Tryd.prog 99 #[.agg m.cells] w (RetB (startsM m) w) := by
  have HTM := hide (fun W => Terms_any W m hF)
  unfold TermsPost at HTM
  have HVN := hide (fun (h : ¬ (m.k = 1 ∨ m.k = 2)) => show startsM m = false by
    unfold startsM
    by_cases h1 : 1 ≤ m.k ∧ m.k ≤ 4
    · rw [decide_eq_false (by omega)]; rfl
    · rw [right_none h1, Bool.and_false])
  have HVY := hide (fun (h : m.k = 1 ∨ m.k = 2) => show startsM m = rightM m by unfold startsM; rw [decide_eq_true (by omega)]; rfl)
  have HTL := hide (fun (h : m.k = 1 ∨ m.k = 2) => show 0 < (textsM m).length by
    unfold textsM
    rcases h with h | h
    · rw [if_pos h]; simp
    · rw [if_neg (by omega), if_pos h]; simp)
  have hkk := hk0
  generalize rightM m = rr at *
  generalize startsM m = ss at *
  generalize textsM m = tl at *
  obtain ⟨k, s, r, c, x4, x5, x6, x7, x8, x9, x10, x11, x12⟩ := m
  unfold Mg.cells at HTM ⊢
  simp only at HTM HVN HVY HTL ⊢
  have HMB := hide (Blk.new w 53 #[.int .i64 k, .int .u32 (s : Nat), .int .u32 (r : Nat), .int .u64 (c : Nat), .string x4, .string x5, .string x6, .string x7, .string x8, .string x9, .string x10, .string x11, .string x12])
  have HO := hide ((Only.refl [] w).alloc (.cells #[.int .i64 k, .int .u32 (s : Nat), .int .u32 (r : Nat), .int .u64 (c : Nat), .string x4, .string x5, .string x6, .string x7, .string x8, .string x9, .string x10, .string x11, .string x12] 53))
  have m0 := HMB.out.cell 0; have m1 := HMB.out.cell 1; have m2 := HMB.out.cell 2; have m3 := HMB.out.cell 3; have m4 := HMB.out.cell 4; have m5 := HMB.out.cell 5; have m6 := HMB.out.cell 6; have m7 := HMB.out.cell 7; have m8 := HMB.out.cell 8; have m9 := HMB.out.cell 9; have m10 := HMB.out.cell 10; have m11 := HMB.out.cell 11; have m12 := HMB.out.cell 12; simp at m0 m1 m2 m3 m4 m5 m6 m7 m8 m9 m10 m11 m12
  clear hF hk0 hkk
  by_cases h1 : k = 1
  · have e1 : (k == 1) = true := by rw [beq_iff_eq]; exact h1
    have HV := hide (HVY.out (.inl h1))
    have htl := HTL.out (.inl h1)
    clear h1
    cases rr with
    | false =>
      simp only [Bool.false_eq_true, if_false] at HTM
      go_enter Tryd.func99, Tryd.ntmps99
      go_wp2_with (go_at_call 37; refine (HTM.out _).mono ?_; rintro e v1 ⟨ho, rfl⟩; replace HO := hide (HO.out.trans ho); clear ho)
      go_ret
      exact retb HV.out HO.out
    | true =>
      simp only [if_true] at HTM
      obtain ⟨n, hn⟩ : ∃ n, n = tl.length := ⟨_, rfl⟩
      have hn0 : (0 : Int) < n := by omega
      have hn1 : 0 < n := by omega
      have HN := hide hn
      clear htl hn
      go_enter Tryd.func99, Tryd.ntmps99
      go_wp2_with (go_at_call 37; refine (HTM.out _).mono ?_; rintro e v1 ⟨ho, v, rfl, hrd⟩; obtain ⟨A, cap, hv, hcc, hmm⟩ := hrd.form; replace hv : v = .slice A n cap := (by rw [HN.out, hv]; simp [strc]); subst hv; replace HO := hide (HO.out.trans ho); clear ho hrd hcc hmm)
      go_ret
      exact retb HV.out HO.out
  · by_cases h2 : k = 2
    · have e1 : (k == 1) = false := by rw [beq_eq_false_iff_ne]; exact h1
      have e2 : (k == 2) = true := by rw [beq_iff_eq]; exact h2
      have HV := hide (HVY.out (.inr h2))
      have htl := HTL.out (.inr h2)
      clear h1 h2
      cases rr with
      | false =>
        simp only [Bool.false_eq_true, if_false] at HTM
        go_enter Tryd.func99, Tryd.ntmps99
        go_wp2_with (go_at_call 37; refine (HTM.out _).mono ?_; rintro e v1 ⟨ho, rfl⟩; replace HO := hide (HO.out.trans ho); clear ho)
        go_ret
        exact retb HV.out HO.out
      | true =>
        simp only [if_true] at HTM
        obtain ⟨n, hn⟩ : ∃ n, n = tl.length := ⟨_, rfl⟩
        have hn0 : (0 : Int) < n := by omega
        have hn1 : 0 < n := by omega
        have HN := hide hn
        clear htl hn
        go_enter Tryd.func99, Tryd.ntmps99
        go_wp2_with (go_at_call 37; refine (HTM.out _).mono ?_; rintro e v1 ⟨ho, v, rfl, hrd⟩; obtain ⟨A, cap, hv, hcc, hmm⟩ := hrd.form; replace hv : v = .slice A n cap := (by rw [HN.out, hv]; simp [strc]); subst hv; replace HO := hide (HO.out.trans ho); clear ho hrd hcc hmm)
        go_ret
        exact retb HV.out HO.out
    · have e1 : (k == 1) = false := by rw [beq_eq_false_iff_ne]; exact h1
      have e2 : (k == 2) = false := by rw [beq_eq_false_iff_ne]; exact h2
      have HV := hide (HVN.out (by omega))
      clear h1 h2
      go_enter Tryd.func99, Tryd.ntmps99
      go_wp2_with fail
      go_ret
      exact retb HV.out HO.out
end
section
open Go.RowKit Go.Deep

set_option maxRecDepth 100000 in
set_option maxHeartbeats 12800000 in
theorem big_2 (m : Mg) (ta tb : ByteArray) : ∃ r : Bool, (r = false → ta.size ≤ 200 ∧ tb.size ≤ 200) ∧ ∀ (w : World) (G : Nat), G = w.heap.size → Calls Tryd.prog 30 #[.agg m.cells, .slice (some ⟨G, 0, none⟩) 2 2] (w.alloc (.cells #[.string ta, .string tb] 9)) (RetB r w) := by
  obtain ⟨hbig, hH⟩ := Heavy_val m 3000
  have HH := hide hH
  clear hH
  obtain ⟨k, s, r, c, x4, x5, x6, x7, x8, x9, x10, x11, x12⟩ := m
  unfold Mg.cells at HH ⊢
  simp only at HH ⊢
  by_cases hta : 200 < ta.size
  · refine ⟨true, (fun h => by cases h), ?_⟩
    have qta : (200 : Int) < ta.size := by omega
    clear hta
    intro w G hG
    subst hG
    have HSB := hide ((Blk.new w 9 #[.string ta, .string tb]).alloc (.cells #[.int .i64 k, .int .u32 (s : Nat), .int .u32 (r : Nat), .int .u64 (c : Nat), .string x4, .string x5, .string x6, .string x7, .string x8, .string x9, .string x10, .string x11, .string x12] 53))
    have HO := hide (((Only.refl [] w).alloc (.cells #[.string ta, .string tb] 9)).alloc (.cells #[.int .i64 k, .int .u32 (s : Nat), .int .u32 (r : Nat), .int .u64 (c : Nat), .string x4, .string x5, .string x6, .string x7, .string x8, .string x9, .string x10, .string x11, .string x12] 53))
    have HMB := hide (Blk.new (w.alloc (.cells #[.string ta, .string tb] 9)) 53 #[.int .i64 k, .int .u32 (s : Nat), .int .u32 (r : Nat), .int .u64 (c : Nat), .string x4, .string x5, .string x6, .string x7, .string x8, .string x9, .string x10, .string x11, .string x12])
    rw [World.size_alloc] at HMB
    go_enter Tryd.func30, Tryd.ntmps30
    go_wp2_with fail
    generalize ((w.alloc (.cells #[.string ta, .string tb] 9)).alloc (.cells #[.int .i64 k, .int .u32 (s : Nat), .int .u32 (r : Nat), .int .u64 (c : Nat), .string x4, .string x5, .string x6, .string x7, .string x8, .string x9, .string x10, .string x11, .string x12] 53)) = W at *
    have s0 := HSB.out.cell 0; have s1 := HSB.out.cell 1
    simp at s0 s1
    have m0 := HMB.out.cell 0; have m1 := HMB.out.cell 1; have m2 := HMB.out.cell 2; have m3 := HMB.out.cell 3; have m4 := HMB.out.cell 4; have m5 := HMB.out.cell 5; have m6 := HMB.out.cell 6; have m7 := HMB.out.cell 7; have m8 := HMB.out.cell 8; have m9 := HMB.out.cell 9; have m10 := HMB.out.cell 10; have m11 := HMB.out.cell 11; have m12 := HMB.out.cell 12; simp at m0 m1 m2 m3 m4 m5 m6 m7 m8 m9 m10 m11 m12
    refine wp_loop_rounds 3 ?_
    rw [rounds_succ]
    go_wp2_with fail
    go_ret
    exact retb rfl HO.out
  · skip
    by_cases htb : 200 < tb.size
    · refine ⟨true, (fun h => by cases h), ?_⟩
      have qtb : (200 : Int) < tb.size := by omega
      have qta : ¬ (200 : Int) < ta.size := by omega
      clear hta htb
      intro w G hG
      subst hG
      have HSB := hide ((Blk.new w 9 #[.string ta, .string tb]).alloc (.cells #[.int .i64 k, .int .u32 (s : Nat), .int .u32 (r : Nat), .int .u64 (c : Nat), .string x4, .string x5, .string x6, .string x7, .string x8, .string x9, .string x10, .string x11, .string x12] 53))
      have HO := hide (((Only.refl [] w).alloc (.cells #[.string ta, .string tb] 9)).alloc (.cells #[.int .i64 k, .int .u32 (s : Nat), .int .u32 (r : Nat), .int .u64 (c : Nat), .string x4, .string x5, .string x6, .string x7, .string x8, .string x9, .string x10, .string x11, .string x12] 53))
      have HMB := hide (Blk.new (w.alloc (.cells #[.string ta, .string tb] 9)) 53 #[.int .i64 k, .int .u32 (s : Nat), .int .u32 (r : Nat), .int .u64 (c : Nat), .string x4, .string x5, .string x6, .string x7, .string x8, .string x9, .string x10, .string x11, .string x12])
      rw [World.size_alloc] at HMB
      go_enter Tryd.func30, Tryd.ntmps30
      go_wp2_with fail
      generalize ((w.alloc (.cells #[.string ta, .string tb] 9)).alloc (.cells #[.int .i64 k, .int .u32 (s : Nat), .int .u32 (r : Nat), .int .u64 (c : Nat), .string x4, .string x5, .string x6, .string x7, .string x8, .string x9, .string x10, .string x11, .string x12] 53)) = W at *
      have s0 := HSB.out.cell 0; have s1 := HSB.out.cell 1
      simp at s0 s1
      have m0 := HMB.out.cell 0; have m1 := HMB.out.cell 1; have m2 := HMB.out.cell 2; have m3 := HMB.out.cell 3; have m4 := HMB.out.cell 4; have m5 := HMB.out.cell 5; have m6 := HMB.out.cell 6; have m7 := HMB.out.cell 7; have m8 := HMB.out.cell 8; have m9 := HMB.out.cell 9; have m10 := HMB.out.cell 10; have m11 := HMB.out.cell 11; have m12 := HMB.out.cell 12; simp at m0 m1 m2 m3 m4 m5 m6 m7 m8 m9 m10 m11 m12
      refine wp_loop_rounds 3 ?_
      rw [rounds_succ]
      go_wp2_with fail
      rw [rounds_succ]
      go_wp2_with fail
      go_ret
      exact retb rfl HO.out
    · skip
      refine ⟨hbig, fun _ => ⟨by omega, by omega⟩, ?_⟩
      have qta : ¬ (200 : Int) < ta.size := by omega
      have qtb : ¬ (200 : Int) < tb.size := by omega
      clear hta htb
      intro w G hG
      subst hG
      have HSB := hide ((Blk.new w 9 #[.string ta, .string tb]).alloc (.cells #[.int .i64 k, .int .u32 (s : Nat), .int .u32 (r : Nat), .int .u64 (c : Nat), .string x4, .string x5, .string x6, .string x7, .string x8, .string x9, .string x10, .string x11, .string x12] 53))
      have HO := hide (((Only.refl [] w).alloc (.cells #[.string ta, .string tb] 9)).alloc (.cells #[.int .i64 k, .int .u32 (s : Nat), .int .u32 (r : Nat), .int .u64 (c : Nat), .string x4, .string x5, .string x6, .string x7, .string x8, .string x9, .string x10, .string x11, .string x12] 53))
      have HMB := hide (Blk.new (w.alloc (.cells #[.string ta, .string tb] 9)) 53 #[.int .i64 k, .int .u32 (s : Nat), .int .u32 (r : Nat), .int .u64 (c : Nat), .string x4, .string x5, .string x6, .string x7, .string x8, .string x9, .string x10, .string x11, .string x12])
      rw [World.size_alloc] at HMB
      go_enter Tryd.func30, Tryd.ntmps30
      go_wp2_with fail
      generalize ((w.alloc (.cells #[.string ta, .string tb] 9)).alloc (.cells #[.int .i64 k, .int .u32 (s : Nat), .int .u32 (r : Nat), .int .u64 (c : Nat), .string x4, .string x5, .string x6, .string x7, .string x8, .string x9, .string x10, .string x11, .string x12] 53)) = W at *
      have s0 := HSB.out.cell 0; have s1 := HSB.out.cell 1
      simp at s0 s1
      have m0 := HMB.out.cell 0; have m1 := HMB.out.cell 1; have m2 := HMB.out.cell 2; have m3 := HMB.out.cell 3; have m4 := HMB.out.cell 4; have m5 := HMB.out.cell 5; have m6 := HMB.out.cell 6; have m7 := HMB.out.cell 7; have m8 := HMB.out.cell 8; have m9 := HMB.out.cell 9; have m10 := HMB.out.cell 10; have m11 := HMB.out.cell 11; have m12 := HMB.out.cell 12; simp at m0 m1 m2 m3 m4 m5 m6 m7 m8 m9 m10 m11 m12
      refine wp_loop_rounds 3 ?_
      rw [rounds_succ]
      go_wp2_with fail
      rw [rounds_succ]
      go_wp2_with fail
      rw [rounds_succ]
      go_wp2_with (go_at_call 34; refine (HH.out _).mono ?_; rintro e w2 ⟨rfl, ho⟩; replace HO := hide (HO.out.trans ho); clear ho)
      go_ret
      exact retb rfl HO.out
end
section
open Go.RowKit Go.Deep

theorem num_size (n : Nat) (hn : n < 18446744073709551616) : (numT n).size ≤ maxLen := make_size' _ _ _ _ hn
set_option maxRecDepth 100000 in
set_option maxHeartbeats 12800000 in
theorem Cookie_yes (w : World) (s : ByteArray) (n : Nat) (hs : s.size ≤ maxLen) (hn : n < 9223372036854775808) (htab : Tab w) : Calls Tryd.prog 31 #[.string s, .int .i64 (n : Nat)] w (MakePost (sumT s (numT n)) w) := by
  have HN : Hid (Calls Tryd.prog 11 #[.int .i64 3, .int .u64 (n : Nat), .slice none 0 0, .slice none 0 0] w (MakePost (numT n) w)) := hide (Make_any 3 (by decide) n (by omega) (.slice none 0 0) (.slice none 0 0) [] [] (by simp) w (Rd.nil _ _) (Rd.nil _ _) htab)
  have HS := hide (fun W ht => sum_any W s (numT n) hs (num_size n (by omega)) ht)
  unfold MakePost at HN HS
  have h0 : ¬ (n : Int) < 0 := by omega
  have hw : IntKind.u64.wrap (n : Int) = n := by rw [IntKind.wrap_u64]; omega
  have HT := hide htab
  generalize numT n = nt at *
  generalize sumT s nt = st at *
  clear htab hs hn
  go_enter Tryd.func31, Tryd.ntmps31
  go_wp2_with (first
    | (go_at_call 11; refine HN.out.mono ?_; rintro e w1 ⟨rfl, ho⟩; have HO := hide ho; replace HT := hide (HT.out.only ho (by simp)); clear ho)
    | (go_at_call 67; refine (HS.out _ HT.out).mono ?_; rintro e w2 ⟨rfl, ho⟩; replace HO := hide (HO.out.trans ho); clear ho))
  go_ret
  exact makepost rfl HO.out
theorem Cookie_no (w : World) (s : ByteArray) (a : Int) (ha : a < 0) : Calls Tryd.prog 31 #[.string s, .int .i64 a] w (MakePost ByteArray.empty w) := by
  go_enter Tryd.func31, Tryd.ntmps31
  go_wp2_with fail
  go_ret
  exact makepost rfl (Only.refl _ _)
set_option maxRecDepth 100000 in
set_option maxHeartbeats 12800000 in
theorem CookieR_yes (w : World) (s : ByteArray) (n : Nat) (hs : s.size ≤ maxLen) (hn : n < 9223372036854775808) : Calls Tryd.prog 32 #[.string s, .int .i64 (n : Nat)] w (MakePost (sumT s (numT n)) w) := by
  have HN := hide (NumberR_any w n (by omega))
  have HS : Hid (∀ W, Calls Tryd.prog 68 #[.string s, .string (numT n)] W (MakePost (sumT s (numT n)) W)) := hide (fun W => MacR_any W s (numT n) hs (num_size n (by omega)))
  unfold MakePost at HN HS
  have hw : IntKind.u64.wrap (n : Int) = n := by rw [IntKind.wrap_u64]; omega
  generalize numT n = nt at *
  generalize sumT s nt = st at *
  clear hs hn
  go_enter Tryd.func32, Tryd.ntmps32
  go_wp2_with (first
    | (go_at_call 69; refine HN.out.mono ?_; rintro e w1 ⟨rfl, ho⟩; have HO := hide ho; clear ho)
    | (go_at_call 68; refine (HS.out _).mono ?_; rintro e w2 ⟨rfl, ho⟩; replace HO := hide (HO.out.trans ho); clear ho))
  go_ret
  exact makepost rfl HO.out
end
section
open Go.RowKit Go.Deep

theorem num_ne (n : Nat) (hn : n < 18446744073709551616) : numT n ≠ ByteArray.empty := by
  intro h
  have h1 : numT n = bytesOf (txtL 3 n [] (sortV 3 [])) := make_is (k := 3) (n := n) (b := []) (l := []) (by decide) (fun _ => rfl) (by decide) (fun j hj => by simp at hj) (by
    have := dec_len n hn
    show (letU 3 :: (if (3 : Int) = 2 ∨ (3 : Int) = 3 then Lib.decDigits n else _)).length ≤ 65536
    rw [if_pos (Or.inr rfl), List.length_cons]
    omega)
  rw [h1] at h
  have h2 := congrArg ByteArray.size h
  rw [bytesOf_size] at h2
  simp [txtL] at h2
theorem numT_len (n : Nat) (hn : n < 18446744073709551616) : (numT n).size ≤ 21 := by
  have h1 : numT n = bytesOf (txtL 3 n [] (sortV 3 [])) := make_is (k := 3) (n := n) (b := []) (l := []) (by decide) (fun _ => rfl) (by decide) (fun j hj => by simp at hj) (by
    have := dec_len n hn
    show (letU 3 :: (if (3 : Int) = 2 ∨ (3 : Int) = 3 then Lib.decDigits n else _)).length ≤ 65536
    rw [if_pos (Or.inr rfl), List.length_cons]
    omega)
  rw [h1, bytesOf_size]
  have := dec_len n hn
  show (letU 3 :: (if (3 : Int) = 2 ∨ (3 : Int) = 3 then Lib.decDigits n else _)).length ≤ 21
  rw [if_pos (Or.inr rfl), List.length_cons]
  omega
theorem num_parse (n : Nat) (hn : n < 18446744073709551616) : parseV (numT n) = some (3, n, [], []) := by
  have h := make_read hn (num_ne n hn)
  exact h
theorem num_kind (n : Nat) (hn : n < 18446744073709551616) : kindT (numT n) ≠ 0 := by
  unfold kindT
  rw [num_parse n hn]
  show (3 : Int) ≠ 0
  decide
theorem sum_ne (s u : ByteArray) (hs : kindT s ≠ 0) (hu : kindT u ≠ 0) (h : s.size + u.size ≤ 60000) : sumT s u ≠ ByteArray.empty := by
  intro h0
  have h1 : sumT s u = bytesOf (txtL 9 0 [] (sortV 9 [s, u])) := make_is (k := 9) (n := 0) (b := []) (l := [s, u]) (by decide) (fun h => by cases h) (by show fitsV 9 2 = true; decide) (fun j hj => by
    rcases j with _ | _ | j
    · exact hs
    · exact hu
    · simp at hj; omega) (by
    show (letU 9 :: (40 :: ([] ++ ((s.data.toList ++ 44 :: u.data.toList) ++ [41])))).length ≤ 65536
    have e1 : s.data.toList.length = s.size := rfl
    have e2 : u.data.toList.length = u.size := rfl
    simp only [List.length_cons, List.length_append, List.length_nil, e1, e2]
    omega)
  rw [h1] at h0
  have h2 := congrArg ByteArray.size h0
  rw [bytesOf_size] at h2
  simp [txtL] at h2
theorem sum_parse {s u : ByteArray} (h : sumT s u ≠ ByteArray.empty) : parseV (sumT s u) = some (9, 0, [], [s, u]) := make_read (by omega) h
theorem sum_inj {s u o v : ByteArray} (h : sumT s u ≠ ByteArray.empty) (he : sumT s u = sumT o v) : s = o ∧ u = v := by
  have h1 := sum_parse h
  have h2 := sum_parse (s := o) (u := v) (he ▸ h)
  rw [he, h2] at h1
  simp only [Option.some.injEq, Prod.mk.injEq, List.cons.injEq, and_true, true_and] at h1
  exact ⟨h1.1.symm, h1.2.symm⟩
theorem num_inj {n e : Nat} (hn : n < 18446744073709551616) (he : e < 18446744073709551616) (h : numT n = numT e) : n = e := by
  have h1 := num_parse n hn
  rw [h, num_parse e he] at h1
  simp only [Option.some.injEq, Prod.mk.injEq, and_true, true_and] at h1
  exact h1.symm
theorem sum_no (s u : ByteArray) (hs : kindT s = 0) : sumT s u = ByteArray.empty := by
  unfold sumT makeV
  refine if_neg ?_
  rintro ⟨_, _, _, _, h, _⟩
  have h1 := h s (by simp)
  obtain ⟨nd, h2⟩ := Option.isSome_iff_exists.1 h1
  have h3 := kind_pos (k := nd.1) (n := nd.2.1) (b := nd.2.2.1) (l := nd.2.2.2) h2
  unfold kindT at hs
  rw [h2] at hs
  simp only at hs
  omega
theorem kind_some (s : ByteArray) : (parseV s).isSome = decide (kindT s ≠ 0) := by
  unfold kindT
  cases h : parseV s with
  | none => rfl
  | some nd =>
    have h3 := kind_pos (k := nd.1) (n := nd.2.1) (b := nd.2.2.1) (l := nd.2.2.2) h
    simp only [Option.isSome_some]
    rw [decide_eq_true]
    show nd.1 ≠ 0
    omega
/-- What macs.Cookie tells. -/
noncomputable def cookV (s : ByteArray) (a : Int) : ByteArray := if a < 0 then ByteArray.empty else sumT s (numT a.toNat)
theorem cook_same (s o : ByteArray) (a e : Int) (hs : kindT s ≠ 0) (hs2 : s.size ≤ 200) (ha : 0 ≤ a) (ha2 : a ≤ 9223372036854775807) (he2 : e ≤ 9223372036854775807) : cookV s a = cookV o e ↔ o = s ∧ e = a := by
  have hn : a.toNat < 18446744073709551616 := by omega
  have hne : sumT s (numT a.toNat) ≠ ByteArray.empty := sum_ne _ _ hs (num_kind _ hn) (by have := numT_len a.toNat hn; omega)
  unfold cookV
  rw [if_neg (by omega)]
  constructor
  · intro h
    split at h
    · exact absurd h hne
    · rename_i h0
      obtain ⟨h1, h2⟩ := sum_inj hne h
      have h3 := num_inj hn (by omega) h2
      exact ⟨h1.symm, by omega⟩
  · rintro ⟨rfl, rfl⟩
    rw [if_neg (by omega)]
end
end Go.Proofs.YtfmfnfmhknlpbaaDoor

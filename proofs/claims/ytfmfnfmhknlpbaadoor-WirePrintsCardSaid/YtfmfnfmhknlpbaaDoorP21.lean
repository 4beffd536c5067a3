/-
  Walks and plain words for WirePrints (texts Wqr2, Ws2, Wqr3, Wqr4). No condition beyond those that each theorem states.
-/
import Derived.Deep.RegionHeld3
import Derived.Test.YtfmfnfmhknlpbaaDoorP20
namespace Go.Proofs.YtfmfnfmhknlpbaaDoor
section
open Go.RowKit Go.Deep

set_option maxRecDepth 100000 in
set_option maxHeartbeats 12800000 in
theorem RightR_2 (w : World) (s r c : Nat) (x4 x5 x6 x7 x8 x9 x10 x11 x12 : ByteArray) (hF : (Mg.mk 2 s r c x4 x5 x6 x7 x8 x9 x10 x11 x12).Fine) : Calls Tryd.prog 36 #[.agg #[.int .i64 2, .int .u32 (s : Nat), .int .u32 (r : Nat), .int .u64 (c : Nat), .string x4, .string x5, .string x6, .string x7, .string x8, .string x9, .string x10, .string x11, .string x12]] w (RetB (rightM (Mg.mk 2 s r c x4 x5 x6 x7 x8 x9 x10 x11 x12)) w) := by
  obtain ⟨hs, hr, hc, hx4, hx5, hx6, hx7, hx8, hx9, hx10, hx11, hx12⟩ := hF
  simp only at hs hr hc hx4 hx5 hx6 hx7 hx8 hx9 hx10 hx11 hx12
  have HTR := hide (fun W => TermsR_2 W s r c x4 x5 x6 x7 x8 x9 x10 x11 x12)
  unfold TermsRPost at HTR
  rw [show (textsM (Mg.mk 2 s r c x4 x5 x6 x7 x8 x9 x10 x11 x12)).length = 4 from rfl] at HTR
  have HMB := hide (Blk.new w 53 #[.int .i64 2, .int .u32 (s : Nat), .int .u32 (r : Nat), .int .u64 (c : Nat), .string x4, .string x5, .string x6, .string x7, .string x8, .string x9, .string x10, .string x11, .string x12])
  have HO := hide ((Only.refl [] w).alloc (.cells #[.int .i64 2, .int .u32 (s : Nat), .int .u32 (r : Nat), .int .u64 (c : Nat), .string x4, .string x5, .string x6, .string x7, .string x8, .string x9, .string x10, .string x11, .string x12] 53))
  have m0 := HMB.out.cell 0; have m1 := HMB.out.cell 1; have m2 := HMB.out.cell 2; have m3 := HMB.out.cell 3; have m4 := HMB.out.cell 4; have m5 := HMB.out.cell 5; have m6 := HMB.out.cell 6; have m7 := HMB.out.cell 7; have m8 := HMB.out.cell 8; have m9 := HMB.out.cell 9; have m10 := HMB.out.cell 10; have m11 := HMB.out.cell 11; have m12 := HMB.out.cell 12; simp at m0 m1 m2 m3 m4 m5 m6 m7 m8 m9 m10 m11 m12
  go_enter Tryd.func36, Tryd.ntmps36
  go_upto_region 5 with (go_at_call 42; refine (HTR.out _).mono ?_; rintro e v0 ⟨g, rfl, hg, hb, ho⟩; have HTB := hide (show Blk v0 g 9 #[.string x4, .string x7, .string x11, .string x12] from hb); replace HMB := hide (HMB.out.only ho (by simp)); replace HO := hide (HO.out.trans ho); clear hg hb ho m0 m1 m2 m3 m4 m5 m6 m7 m8 m9 m10 m11 m12)
  refine wp_loop_rounds 5 ?_
  rw [rounds_succ]
  have cj := HTB.out.cell 0; simp at cj
  by_cases hz : 65535 < x4.size
  case pos =>
    have hzI : (65535 : Int) < x4.size := by omega
    have HV := hide (show rightM (Mg.mk 2 s r c x4 x5 x6 x7 x8 x9 x10 x11 x12) = false by simp [rightM, textsM, show fitW x4 = false by unfold fitW; rw [decide_eq_false (by omega)]; rfl])
    clear hz
    go_wp2_with fail
    go_ret
    exact retb HV.out HO.out
  have hzI : ¬ (65535 : Int) < x4.size := by omega
  have HIS := hide (fun W => isR_all W x4 hx4)
  unfold RetB at HIS
  cases hp : (parseV x4).isSome
  case false =>
    rw [hp] at HIS
    have HV := hide (show rightM (Mg.mk 2 s r c x4 x5 x6 x7 x8 x9 x10 x11 x12) = false by simp [rightM, textsM, show fitW x4 = false by unfold fitW; rw [hp, Bool.and_false]])
    clear hz hp
    go_wp2_with (go_at_call 12; refine (HIS.out _).mono ?_; rintro e w3 ⟨rfl, ho⟩; replace HO := hide (HO.out.trans ho); clear ho)
    go_ret
    exact retb HV.out HO.out
  rw [hp] at HIS
  have HB4 := hide (show fitW x4 = true by unfold fitW; rw [hp, Bool.and_true]; exact decide_eq_true (by omega))
  clear hz hp
  go_wp2_with (go_at_call 12; refine (HIS.out _).mono ?_; rintro e v1 ⟨rfl, ho⟩; replace HMB := hide (HMB.out.only ho (by simp)); replace HTB := hide (HTB.out.only ho (by simp)); replace HO := hide (HO.out.trans ho); clear ho)
  clear cj HIS hzI
  rw [rounds_succ]
  have cj := HTB.out.cell 1; simp at cj
  by_cases hz : 65535 < x7.size
  case pos =>
    have hzI : (65535 : Int) < x7.size := by omega
    have HV := hide (show rightM (Mg.mk 2 s r c x4 x5 x6 x7 x8 x9 x10 x11 x12) = false by simp [rightM, textsM, show fitW x7 = false by unfold fitW; rw [decide_eq_false (by omega)]; rfl])
    clear hz
    go_wp2_with fail
    go_ret
    exact retb HV.out HO.out
  have hzI : ¬ (65535 : Int) < x7.size := by omega
  have HIS := hide (fun W => isR_all W x7 hx7)
  unfold RetB at HIS
  cases hp : (parseV x7).isSome
  case false =>
    rw [hp] at HIS
    have HV := hide (show rightM (Mg.mk 2 s r c x4 x5 x6 x7 x8 x9 x10 x11 x12) = false by simp [rightM, textsM, show fitW x7 = false by unfold fitW; rw [hp, Bool.and_false]])
    clear hz hp
    go_wp2_with (go_at_call 12; refine (HIS.out _).mono ?_; rintro e w3 ⟨rfl, ho⟩; replace HO := hide (HO.out.trans ho); clear ho)
    go_ret
    exact retb HV.out HO.out
  rw [hp] at HIS
  have HB7 := hide (show fitW x7 = true by unfold fitW; rw [hp, Bool.and_true]; exact decide_eq_true (by omega))
  clear hz hp
  go_wp2_with (go_at_call 12; refine (HIS.out _).mono ?_; rintro e v2 ⟨rfl, ho⟩; replace HMB := hide (HMB.out.only ho (by simp)); replace HTB := hide (HTB.out.only ho (by simp)); replace HO := hide (HO.out.trans ho); clear ho)
  clear cj HIS hzI
  rw [rounds_succ]
  have cj := HTB.out.cell 2; simp at cj
  by_cases hz : 65535 < x11.size
  case pos =>
    have hzI : (65535 : Int) < x11.size := by omega
    have HV := hide (show rightM (Mg.mk 2 s r c x4 x5 x6 x7 x8 x9 x10 x11 x12) = false by simp [rightM, textsM, show fitW x11 = false by unfold fitW; rw [decide_eq_false (by omega)]; rfl])
    clear hz
    go_wp2_with fail
    go_ret
    exact retb HV.out HO.out
  have hzI : ¬ (65535 : Int) < x11.size := by omega
  have HIS := hide (fun W => isR_all W x11 hx11)
  unfold RetB at HIS
  cases hp : (parseV x11).isSome
  case false =>
    rw [hp] at HIS
    have HV := hide (show rightM (Mg.mk 2 s r c x4 x5 x6 x7 x8 x9 x10 x11 x12) = false by simp [rightM, textsM, show fitW x11 = false by unfold fitW; rw [hp, Bool.and_false]])
    clear hz hp
    go_wp2_with (go_at_call 12; refine (HIS.out _).mono ?_; rintro e w3 ⟨rfl, ho⟩; replace HO := hide (HO.out.trans ho); clear ho)
    go_ret
    exact retb HV.out HO.out
  rw [hp] at HIS
  have HB11 := hide (show fitW x11 = true by unfold fitW; rw [hp, Bool.and_true]; exact decide_eq_true (by omega))
  clear hz hp
  go_wp2_with (go_at_call 12; refine (HIS.out _).mono ?_; rintro e v3 ⟨rfl, ho⟩; replace HMB := hide (HMB.out.only ho (by simp)); replace HTB := hide (HTB.out.only ho (by simp)); replace HO := hide (HO.out.trans ho); clear ho)
  clear cj HIS hzI
  rw [rounds_succ]
  have cj := HTB.out.cell 3; simp at cj
  by_cases hz : 65535 < x12.size
  case pos =>
    have hzI : (65535 : Int) < x12.size := by omega
    have HV := hide (show rightM (Mg.mk 2 s r c x4 x5 x6 x7 x8 x9 x10 x11 x12) = false by simp [rightM, textsM, show fitW x12 = false by unfold fitW; rw [decide_eq_false (by omega)]; rfl])
    clear hz
    go_wp2_with fail
    go_ret
    exact retb HV.out HO.out
  have hzI : ¬ (65535 : Int) < x12.size := by omega
  have HIS := hide (fun W => isR_all W x12 hx12)
  unfold RetB at HIS
  cases hp : (parseV x12).isSome
  case false =>
    rw [hp] at HIS
    have HV := hide (show rightM (Mg.mk 2 s r c x4 x5 x6 x7 x8 x9 x10 x11 x12) = false by simp [rightM, textsM, show fitW x12 = false by unfold fitW; rw [hp, Bool.and_false]])
    clear hz hp
    go_wp2_with (go_at_call 12; refine (HIS.out _).mono ?_; rintro e w3 ⟨rfl, ho⟩; replace HO := hide (HO.out.trans ho); clear ho)
    go_ret
    exact retb HV.out HO.out
  rw [hp] at HIS
  have HB12 := hide (show fitW x12 = true by unfold fitW; rw [hp, Bool.and_true]; exact decide_eq_true (by omega))
  clear hz hp
  go_wp2_with (go_at_call 12; refine (HIS.out _).mono ?_; rintro e v4 ⟨rfl, ho⟩; replace HMB := hide (HMB.out.only ho (by simp)); replace HTB := hide (HTB.out.only ho (by simp)); replace HO := hide (HO.out.trans ho); clear ho)
  clear cj HIS hzI
  rw [rounds_succ]
  have heq : ∀ W : World, (binOp .eql 53 (.agg #[.int .i64 2, .int .u32 (s : Nat), .int .u32 (r : Nat), .int .u64 0, .string x4, .string ⟨#[]⟩, .string ⟨#[]⟩, .string x7, .string ⟨#[]⟩, .string ⟨#[]⟩, .string ⟨#[]⟩, .string x11, .string x12]) (.agg #[.int .i64 2, .int .u32 (s : Nat), .int .u32 (r : Nat), .int .u64 (c : Nat), .string x4, .string x5, .string x6, .string x7, .string x8, .string x9, .string x10, .string x11, .string x12])).run Tryd.prog W = .ok (.bool (eqM (onlyM (Mg.mk 2 s r c x4 x5 x6 x7 x8 x9 x10 x11 x12)) (Mg.mk 2 s r c x4 x5 x6 x7 x8 x9 x10 x11 x12))) W := fun W => msg_eql (onlyM (Mg.mk 2 s r c x4 x5 x6 x7 x8 x9 x10 x11 x12)) (Mg.mk 2 s r c x4 x5 x6 x7 x8 x9 x10 x11 x12) W
  have HV := hide (show rightM (Mg.mk 2 s r c x4 x5 x6 x7 x8 x9 x10 x11 x12) = eqM (onlyM (Mg.mk 2 s r c x4 x5 x6 x7 x8 x9 x10 x11 x12)) (Mg.mk 2 s r c x4 x5 x6 x7 x8 x9 x10 x11 x12) by simp [rightM, textsM, HB4.out, HB7.out, HB11.out, HB12.out])
  generalize eqM (onlyM (Mg.mk 2 s r c x4 x5 x6 x7 x8 x9 x10 x11 x12)) (Mg.mk 2 s r c x4 x5 x6 x7 x8 x9 x10 x11 x12) = B at *
  have HW := hide (fun W (h0 : W.cell? ⟨g, 0, none⟩ = some (.string x4)) (h1 : W.cell? ⟨g, 1, none⟩ = some (.string x7)) (h2 : W.cell? ⟨g, 2, none⟩ = some (.string x11)) (h3 : W.cell? ⟨g, 3, none⟩ = some (.string x12)) => With_2 W s r c g 0 4 x4 x7 x11 x12 (by omega) (by first | exact h0 | simpa using h0) (by first | exact h1 | simpa using h1) (by first | exact h2 | simpa using h2) (by first | exact h3 | simpa using h3))
  go_wp2_with fail
  refine wp_region_held_drew (S := fun W => Only [] v4 W) (by kernel_rfl) (by exact (Only.refl [] v4).drew) (fun hHeld => ?_)
  refine wpAnyH_take (i := 0) (v := ?_) rfl (by kernel_rfl) (by kernel_rfl) (by kernel_rfl) (fun _ _ _ h => h) (Or.inl ⟨by rfl, ?_⟩) (by assumption) ?_
  rotate_left
  · (intro w hSw; (try dsimp only at hSw); go_simp; try with_reducible rfl)
  try simp only [List.getElem_toArray, List.getElem_cons_succ, List.getElem_cons_zero, Act.put, List.setIfInBounds_toArray, List.set_cons_zero, List.set_cons_succ]
  refine wpAnyH_take (i := 1) (v := ?_) rfl (by kernel_rfl) (by kernel_rfl) (by kernel_rfl) (fun _ _ _ h => h) (Or.inl ⟨by rfl, ?_⟩) (by assumption) ?_
  rotate_left
  · (intro w hSw; (try dsimp only at hSw); have HMw := HMB.out.only hSw (by simp); have m0 := (hide HMw).out.cell 0; simp at m0; go_simp; try with_reducible rfl)
  try simp only [List.getElem_toArray, List.getElem_cons_succ, List.getElem_cons_zero, Act.put, List.setIfInBounds_toArray, List.set_cons_zero, List.set_cons_succ]
  refine wpAnyH_take (i := 2) (v := ?_) rfl (by kernel_rfl) (by kernel_rfl) (by kernel_rfl) (fun _ _ _ h => h) (Or.inl ⟨by rfl, ?_⟩) (by assumption) ?_
  rotate_left
  · (intro w hSw; (try dsimp only at hSw); go_simp; try with_reducible rfl)
  try simp only [List.getElem_toArray, List.getElem_cons_succ, List.getElem_cons_zero, Act.put, List.setIfInBounds_toArray, List.set_cons_zero, List.set_cons_succ]
  refine wpAnyH_take (i := 3) (v := ?_) rfl (by kernel_rfl) (by kernel_rfl) (by kernel_rfl) (fun _ _ _ h => h) (Or.inl ⟨by rfl, ?_⟩) (by assumption) ?_
  rotate_left
  · (intro w hSw; (try dsimp only at hSw); have HMw := HMB.out.only hSw (by simp); have m1 := (hide HMw).out.cell 1; simp at m1; go_simp; try with_reducible rfl)
  try simp only [List.getElem_toArray, List.getElem_cons_succ, List.getElem_cons_zero, Act.put, List.setIfInBounds_toArray, List.set_cons_zero, List.set_cons_succ]
  refine wpAnyH_take (i := 4) (v := ?_) rfl (by kernel_rfl) (by kernel_rfl) (by kernel_rfl) (fun _ _ _ h => h) (Or.inl ⟨by rfl, ?_⟩) (by assumption) ?_
  rotate_left
  · (intro w hSw; (try dsimp only at hSw); go_simp; try with_reducible rfl)
  try simp only [List.getElem_toArray, List.getElem_cons_succ, List.getElem_cons_zero, Act.put, List.setIfInBounds_toArray, List.set_cons_zero, List.set_cons_succ]
  refine wpAnyH_take (i := 5) (v := ?_) rfl (by kernel_rfl) (by kernel_rfl) (by kernel_rfl) (fun _ _ _ h => h) (Or.inl ⟨by rfl, ?_⟩) (by assumption) ?_
  rotate_left
  · (intro w hSw; (try dsimp only at hSw); have HMw := HMB.out.only hSw (by simp); have m2 := (hide HMw).out.cell 2; simp at m2; go_simp; try with_reducible rfl)
  try simp only [List.getElem_toArray, List.getElem_cons_succ, List.getElem_cons_zero, Act.put, List.setIfInBounds_toArray, List.set_cons_zero, List.set_cons_succ]
  refine wpAnyH_take (i := 6) (v := ?_) rfl (by kernel_rfl) (by kernel_rfl) (by kernel_rfl) (fun _ _ _ h => h) (Or.inl ⟨by rfl, ?_⟩) (by assumption) ?_
  rotate_left
  · (intro w hSw; (try dsimp only at hSw); go_simp; try with_reducible rfl)
  try simp only [List.getElem_toArray, List.getElem_cons_succ, List.getElem_cons_zero, Act.put, List.setIfInBounds_toArray, List.set_cons_zero, List.set_cons_succ]
  refine wpAnyH_take (i := 7) (v := ?_) rfl (by kernel_rfl) (by kernel_rfl) (by kernel_rfl) (fun _ _ _ h => h) (Or.inl ⟨by rfl, ?_⟩) (by assumption) ?_
  rotate_left
  · (intro w hSw; (try dsimp only at hSw); have HMw := HMB.out.only hSw (by simp); have m3 := (hide HMw).out.cell 3; simp at m3; go_simp; try with_reducible rfl)
  try simp only [List.getElem_toArray, List.getElem_cons_succ, List.getElem_cons_zero, Act.put, List.setIfInBounds_toArray, List.set_cons_zero, List.set_cons_succ]
  refine wpAnyH_take (i := 8) (v := ?_) rfl (by kernel_rfl) (by kernel_rfl) (by kernel_rfl) (fun _ _ _ h => h) (Or.inl ⟨by rfl, ?_⟩) (by assumption) ?_
  rotate_left
  · (intro w hSw; (try dsimp only at hSw); go_simp; try with_reducible rfl)
  try simp only [List.getElem_toArray, List.getElem_cons_succ, List.getElem_cons_zero, Act.put, List.setIfInBounds_toArray, List.set_cons_zero, List.set_cons_succ]
  refine wpAnyH_take (i := 10) (v := ?_) rfl (by kernel_rfl) (by kernel_rfl) (by kernel_rfl) (fun _ _ _ h => h) (Or.inl ⟨by rfl, ?_⟩) (by assumption) ?_
  rotate_left
  · (intro w hSw; (try dsimp only at hSw); have HMw := HMB.out.only hSw (by simp); have m0 := (hide HMw).out.cell 0; have m1 := (hide HMw).out.cell 1; have m2 := (hide HMw).out.cell 2; have m3 := (hide HMw).out.cell 3; have m4 := (hide HMw).out.cell 4; have m5 := (hide HMw).out.cell 5; have m6 := (hide HMw).out.cell 6; have m7 := (hide HMw).out.cell 7; have m8 := (hide HMw).out.cell 8; have m9 := (hide HMw).out.cell 9; have m10 := (hide HMw).out.cell 10; have m11 := (hide HMw).out.cell 11; have m12 := (hide HMw).out.cell 12; simp at m0 m1 m2 m3 m4 m5 m6 m7 m8 m9 m10 m11 m12; go_simp; try with_reducible rfl)
  try simp only [List.getElem_toArray, List.getElem_cons_succ, List.getElem_cons_zero, Act.put, List.setIfInBounds_toArray, List.set_cons_zero, List.set_cons_succ]
  refine wpAnyH_ready (rs := [9]) (by kernel_rfl) (by simp) ?_
  refine AllReadyH.cons rfl (fun K hK => ?_) AllReadyH.nil
  go_simp
  (go_at_call 72; refine (HW.out _ (by have h := (HTB.out.only hHeld (by simp)).cell 0; simpa using h) (by have h := (HTB.out.only hHeld (by simp)).cell 1; simpa using h) (by have h := (HTB.out.only hHeld (by simp)).cell 2; simpa using h) (by have h := (HTB.out.only hHeld (by simp)).cell 3; simpa using h)).mono ?_; rintro e wz ⟨rfl, ho⟩)
  refine hK.out _ _ (by exact hHeld.trans ho) (fun hHeld => ?_)
  clear hK K ho
  try simp only [List.getElem_toArray, List.getElem_cons_succ, List.getElem_cons_zero, Act.put, List.setIfInBounds_toArray, List.set_cons_zero, List.set_cons_succ]
  refine wpAnyH_take (i := 11) (v := ?_) rfl (by kernel_rfl) (by kernel_rfl) (by kernel_rfl) (fun _ _ _ h => h) (Or.inl ⟨by rfl, ?_⟩) (by assumption) ?_
  rotate_left
  · (intro w hSw; (try dsimp only at hSw); go_simp; try with_reducible rfl)
  try simp only [List.getElem_toArray, List.getElem_cons_succ, List.getElem_cons_zero, Act.put, List.setIfInBounds_toArray, List.set_cons_zero, List.set_cons_succ]
  refine wpAnyH_take (i := 12) (v := ?_) rfl (by kernel_rfl) (by kernel_rfl) (by kernel_rfl) (fun _ _ _ h => h) (Or.inl ⟨by rfl, ?_⟩) (by assumption) ?_
  rotate_left
  · (intro w hSw; (try dsimp only at hSw); go_simp; try with_reducible rfl)
  try simp only [List.getElem_toArray, List.getElem_cons_succ, List.getElem_cons_zero, Act.put, List.setIfInBounds_toArray, List.set_cons_zero, List.set_cons_succ]
  refine wpAnyH_done (by kernel_rfl) ?_ _
  go_wp2_with fail
  go_ret
  exact retb HV.out (HO.out.trans hHeld)
end
section
open Go.RowKit Go.Deep

set_option maxRecDepth 100000 in
set_option maxHeartbeats 12800000 in
theorem Body_2 (w : World) (s r c : Nat) (x4 x5 x6 x7 x8 x9 x10 x11 x12 : ByteArray) (hF : (Mg.mk 2 s r c x4 x5 x6 x7 x8 x9 x10 x11 x12).Fine) (hR : rightM (Mg.mk 2 s r c x4 x5 x6 x7 x8 x9 x10 x11 x12) = true) (htab : Tab w) : Calls Tryd.prog 38 #[.agg #[.int .i64 2, .int .u32 (s : Nat), .int .u32 (r : Nat), .int .u64 (c : Nat), .string x4, .string x5, .string x6, .string x7, .string x8, .string x9, .string x10, .string x11, .string x12]] w (MakePost (bodyM (Mg.mk 2 s r c x4 x5 x6 x7 x8 x9 x10 x11 x12)) w) := by
  have HV := hide (show bodyM (Mg.mk 2 s r c x4 x5 x6 x7 x8 x9 x10 x11 x12) = makeV 11 0 [] ([numT 2, numT s, numT r] ++ [x4, x7]) by unfold bodyM; rw [if_pos ⟨hR, by show (2 : Int) ≤ 2; omega⟩]; rfl)
  have HTM := hide (fun W => Terms_2 W s r c x4 x5 x6 x7 x8 x9 x10 x11 x12 hF)
  unfold TermsPost at HTM
  simp only [hR, if_true] at HTM
  obtain ⟨hs, hr, hc, hx4, hx5, hx6, hx7, hx8, hx9, hx10, hx11, hx12⟩ := hF
  simp only at hs hr hc hx4 hx5 hx6 hx7 hx8 hx9 hx10 hx11 hx12
  have hws : IntKind.u64.wrap (s : Int) = s := by rw [IntKind.wrap_u64]; omega
  have hwr : IntKind.u64.wrap (r : Int) = r := by rw [IntKind.wrap_u64]; omega
  obtain ⟨is, his, hs0, hs1, hs2⟩ := info_parts (show (Tryd.prog.info? 9).map (fun i => (i.zero, i.size, i.bytes)) = some (some (.string ByteArray.empty), 1, 16) by kernel_rfl)
  have HMB := hide (Blk.new w 53 #[.int .i64 2, .int .u32 (s : Nat), .int .u32 (r : Nat), .int .u64 (c : Nat), .string x4, .string x5, .string x6, .string x7, .string x8, .string x9, .string x10, .string x11, .string x12])
  have HO := hide ((Only.refl [] w).alloc (.cells #[.int .i64 2, .int .u32 (s : Nat), .int .u32 (r : Nat), .int .u64 (c : Nat), .string x4, .string x5, .string x6, .string x7, .string x8, .string x9, .string x10, .string x11, .string x12] 53))
  have HT := hide (htab.only HO.out (by simp))
  clear htab
  clear hR
  have m0 := HMB.out.cell 0; have m1 := HMB.out.cell 1; have m2 := HMB.out.cell 2; have m3 := HMB.out.cell 3; have m4 := HMB.out.cell 4; have m5 := HMB.out.cell 5; have m6 := HMB.out.cell 6; have m7 := HMB.out.cell 7; have m8 := HMB.out.cell 8; have m9 := HMB.out.cell 9; have m10 := HMB.out.cell 10; have m11 := HMB.out.cell 11; have m12 := HMB.out.cell 12; simp at m0 m1 m2 m3 m4 m5 m6 m7 m8 m9 m10 m11 m12
  go_enter Tryd.func38, Tryd.ntmps38
  go_upto_region 4 with (go_at_call 37; refine (HTM.out _).mono ?_; rintro e v1 ⟨ho, v, rfl, hrd⟩; obtain ⟨A, cap, hv, hcc, hmm⟩ := hrd.form; replace hv : v = .slice A 4 cap := hv; subst hv; replace hcc : 4 ≤ cap := hcc; have HRD := hide (show Rd v1 [] (.slice A 4 cap) (strs [x4, x7, x11, x12]) from hrd); replace HMB := hide (HMB.out.only ho (by simp)); replace HO := hide (HO.out.trans ho); replace HT := hide (HT.out.only ho (by simp)); clear ho hrd m0 m1 m2 m3 m4 m5 m6 m7 m8 m9 m10 m11 m12; have m0 := HMB.out.cell 0; simp at m0)
  have hcI : (2 : Int) ≤ cap := by omega
  clear m0
  refine wp_region_held_drew (S := fun W => Only [] v1 W) (by kernel_rfl) (by exact (Only.refl [] v1).drew) (fun hHeld => ?_)
  refine wpAnyH_take (i := 0) (v := ?_) rfl (by kernel_rfl) (by kernel_rfl) (by kernel_rfl) (fun _ _ _ h => h) (Or.inl ⟨by rfl, ?_⟩) (by assumption) ?_
  rotate_left
  · (intro w hSw; (try dsimp only at hSw); go_simp; try with_reducible rfl)
  try simp only [List.getElem_toArray, List.getElem_cons_succ, List.getElem_cons_zero, Act.put, List.setIfInBounds_toArray, List.set_cons_zero, List.set_cons_succ]
  refine wpAnyH_take (i := 1) (v := ?_) rfl (by kernel_rfl) (by kernel_rfl) (by kernel_rfl) (fun _ _ _ h => h) (Or.inl ⟨by rfl, ?_⟩) (by assumption) ?_
  rotate_left
  · (intro w hSw; (try dsimp only at hSw); have HMw := HMB.out.only hSw (by simp); have m0 := (hide HMw).out.cell 0; simp at m0; go_simp; try with_reducible rfl)
  try simp only [List.getElem_toArray, List.getElem_cons_succ, List.getElem_cons_zero, Act.put, List.setIfInBounds_toArray, List.set_cons_zero, List.set_cons_succ]
  refine wpAnyH_take (i := 2) (v := ?_) rfl (by kernel_rfl) (by kernel_rfl) (by kernel_rfl) (fun _ _ _ h => h) (Or.inl ⟨by rfl, ?_⟩) (by assumption) ?_
  rotate_left
  · (intro w hSw; (try dsimp only at hSw); go_simp; try with_reducible rfl)
  try simp only [List.getElem_toArray, List.getElem_cons_succ, List.getElem_cons_zero, Act.put, List.setIfInBounds_toArray, List.set_cons_zero, List.set_cons_succ]
  refine wpAnyH_take (i := 4) (v := ?_) rfl (by kernel_rfl) (by kernel_rfl) (by kernel_rfl) (fun _ _ _ h => h) (Or.inl ⟨by rfl, ?_⟩) (by assumption) ?_
  rotate_left
  · (intro w hSw; (try dsimp only at hSw); go_simp; try with_reducible rfl)
  try simp only [List.getElem_toArray, List.getElem_cons_succ, List.getElem_cons_zero, Act.put, List.setIfInBounds_toArray, List.set_cons_zero, List.set_cons_succ]
  refine wpAnyH_take (i := 5) (v := ?_) rfl (by kernel_rfl) (by kernel_rfl) (by kernel_rfl) (fun _ _ _ h => h) (Or.inl ⟨by rfl, ?_⟩) (by assumption) ?_
  rotate_left
  · (intro w hSw; (try dsimp only at hSw); have HMw := HMB.out.only hSw (by simp); have m1 := (hide HMw).out.cell 1; simp at m1; go_simp; try with_reducible rfl)
  try simp only [List.getElem_toArray, List.getElem_cons_succ, List.getElem_cons_zero, Act.put, List.setIfInBounds_toArray, List.set_cons_zero, List.set_cons_succ]
  refine wpAnyH_take (i := 6) (v := ?_) rfl (by kernel_rfl) (by kernel_rfl) (by kernel_rfl) (fun _ _ _ h => h) (Or.inl ⟨by rfl, ?_⟩) (by assumption) ?_
  rotate_left
  · (intro w hSw; (try dsimp only at hSw); go_simp; try with_reducible rfl)
  try simp only [List.getElem_toArray, List.getElem_cons_succ, List.getElem_cons_zero, Act.put, List.setIfInBounds_toArray, List.set_cons_zero, List.set_cons_succ]
  refine wpAnyH_take (i := 8) (v := ?_) rfl (by kernel_rfl) (by kernel_rfl) (by kernel_rfl) (fun _ _ _ h => h) (Or.inl ⟨by rfl, ?_⟩) (by assumption) ?_
  rotate_left
  · (intro w hSw; (try dsimp only at hSw); go_simp; try with_reducible rfl)
  try simp only [List.getElem_toArray, List.getElem_cons_succ, List.getElem_cons_zero, Act.put, List.setIfInBounds_toArray, List.set_cons_zero, List.set_cons_succ]
  refine wpAnyH_take (i := 9) (v := ?_) rfl (by kernel_rfl) (by kernel_rfl) (by kernel_rfl) (fun _ _ _ h => h) (Or.inl ⟨by rfl, ?_⟩) (by assumption) ?_
  rotate_left
  · (intro w hSw; (try dsimp only at hSw); have HMw := HMB.out.only hSw (by simp); have m2 := (hide HMw).out.cell 2; simp at m2; go_simp; try with_reducible rfl)
  try simp only [List.getElem_toArray, List.getElem_cons_succ, List.getElem_cons_zero, Act.put, List.setIfInBounds_toArray, List.set_cons_zero, List.set_cons_succ]
  refine wpAnyH_take (i := 10) (v := ?_) rfl (by kernel_rfl) (by kernel_rfl) (by kernel_rfl) (fun _ _ _ h => h) (Or.inl ⟨by rfl, ?_⟩) (by assumption) ?_
  rotate_left
  · (intro w hSw; (try dsimp only at hSw); go_simp; try with_reducible rfl)
  try simp only [List.getElem_toArray, List.getElem_cons_succ, List.getElem_cons_zero, Act.put, List.setIfInBounds_toArray, List.set_cons_zero, List.set_cons_succ]
  refine wpAnyH_ready (rs := [3]) (by kernel_rfl) (by simp) ?_
  refine AllReadyH.cons rfl (fun K hK => ?_) AllReadyH.nil
  go_simp
  (go_at_call 11; refine (Make_any 3 (by decide) 2 (by omega) _ _ [] [] (by simp) _ (Rd.nil _ _) (Rd.nil _ _) (HT.out.only hHeld (by simp))).mono ?_; rintro e wz ⟨rfl, ho⟩)
  refine hK.out _ _ (by exact hHeld.trans ho) (fun hHeld => ?_)
  clear hK K ho
  try simp only [List.getElem_toArray, List.getElem_cons_succ, List.getElem_cons_zero, Act.put, List.setIfInBounds_toArray, List.set_cons_zero, List.set_cons_succ]
  refine wpAnyH_ready (rs := [7]) (by kernel_rfl) (by simp) ?_
  refine AllReadyH.cons rfl (fun K hK => ?_) AllReadyH.nil
  go_simp
  (go_at_call 11; refine (Make_any 3 (by decide) s (by omega) _ _ [] [] (by simp) _ (Rd.nil _ _) (Rd.nil _ _) (HT.out.only hHeld (by simp))).mono ?_; rintro e wz ⟨rfl, ho⟩)
  refine hK.out _ _ (by exact hHeld.trans ho) (fun hHeld => ?_)
  clear hK K ho
  try simp only [List.getElem_toArray, List.getElem_cons_succ, List.getElem_cons_zero, Act.put, List.setIfInBounds_toArray, List.set_cons_zero, List.set_cons_succ]
  refine wpAnyH_ready (rs := [11]) (by kernel_rfl) (by simp) ?_
  refine AllReadyH.cons rfl (fun K hK => ?_) AllReadyH.nil
  go_simp
  (go_at_call 11; refine (Make_any 3 (by decide) r (by omega) _ _ [] [] (by simp) _ (Rd.nil _ _) (Rd.nil _ _) (HT.out.only hHeld (by simp))).mono ?_; rintro e wz ⟨rfl, ho⟩)
  refine hK.out _ _ (by exact hHeld.trans ho) (fun hHeld => ?_)
  clear hK K ho
  try simp only [List.getElem_toArray, List.getElem_cons_succ, List.getElem_cons_zero, Act.put, List.setIfInBounds_toArray, List.set_cons_zero, List.set_cons_succ]
  refine wpAnyH_ready (rs := [12]) (by kernel_rfl) (by simp) ?_
  refine AllReadyH.cons rfl (fun K hK => ?_) AllReadyH.nil
  go_simp
  have HZ0 := hide hHeld.size
  refine hK.out _ _ (by exact hHeld.alloc _) (fun hHeld => ?_)
  clear hK K
  try simp only [List.getElem_toArray, List.getElem_cons_succ, List.getElem_cons_zero, Act.put, List.setIfInBounds_toArray, List.set_cons_zero, List.set_cons_succ]
  refine wpAnyH_take (i := 13) (v := ?_) rfl (by kernel_rfl) (by kernel_rfl) (by kernel_rfl) (fun _ _ _ h => h) (Or.inl ⟨by rfl, ?_⟩) (by assumption) ?_
  rotate_left
  · (intro w hSw; (try dsimp only at hSw); go_simp; try with_reducible rfl)
  try simp only [List.getElem_toArray, List.getElem_cons_succ, List.getElem_cons_zero, Act.put, List.setIfInBounds_toArray, List.set_cons_zero, List.set_cons_succ]
  refine wpAnyH_done (by kernel_rfl) ?_ _
  have hz1 := make_size' 3 2 [] [] (by omega)
  have hz2 := make_size' 3 s [] [] (by omega)
  have hz3 := make_size' 3 r [] [] (by omega)
  have HOW := hide (show (wz.alloc (.cells #[.string (makeV 3 2 [] []), .string (makeV 3 s [] []), .string (makeV 3 r [] [])] 9)).ownsRow wz.heap.size 9 1 (.slice (some ⟨wz.heap.size, 0, none⟩) 3 3) 3 (strs [numT 2, numT s, numT r]) from World.ownsRow_lit wz #[.string (makeV 3 2 [] []), .string (makeV 3 s [] []), .string (makeV 3 r [] [])] 3 (Nat.le_refl _) (by unfold maxLen; omega) rfl)
  have HHD := hide hHeld
  have HRT := hide (show Rd (wz.alloc (.cells #[.string (makeV 3 2 [] []), .string (makeV 3 s [] []), .string (makeV 3 r [] [])] 9)) [] (.slice A 2 cap) (strs [x4, x7]) from (HRD.out.only hHeld (by simp)).take 2 (by omega))
  have HSZ := hide (show wz.heap.size ≤ (wz.alloc (.cells #[.string (makeV 3 2 [] []), .string (makeV 3 s [] []), .string (makeV 3 r [] [])] 9)).heap.size by simp)
  have HBZ := hide (show v1.heap.size ≤ wz.heap.size from HZ0.out)
  generalize (wz.alloc (.cells #[.string (makeV 3 2 [] []), .string (makeV 3 s [] []), .string (makeV 3 r [] [])] 9)) = wp at *
  have HPS := hide (show ∀ p ∈ [numT 2, numT s, numT r] ++ [x4, x7], p.size ≤ maxLen by intro p hp; simp at hp; rcases hp with rfl | rfl | rfl | rfl | rfl; all_goals assumption)
  go_wp2_with (first | (at_builtin; refine wpList_append_any _ rfl (.tmp 33) (.tmp 38) 31 rfl wz.heap.size 9 is (.string ByteArray.empty) 1 16 Tryd.underlying31 his hs0 hs1 hs2 rfl (by decide) _ 3 _ rfl HOW.out wp.heap.size A 2 cap (strs [x4, x7]) rfl HRT.out.reads (by intro u hu; obtain ⟨x, _, rfl⟩ := List.mem_map.1 hu; rfl) (by unfold maxLen; omega) (by omega) HSZ.out ?_; intro vv w3 hown1 hg1 _; have HOW3 := hide (show w3.ownsRow wz.heap.size 9 1 vv 5 (strs ([numT 2, numT s, numT r] ++ [x4, x7])) from hown1); have HO3 := hide (show Only [] v1 w3 from HHD.out.grown hg1 (fun jj hjj => .inr (by have := own_block_ge HOW.out hjj; have := HBZ.out; omega))); clear hown1 hg1; obtain ⟨Av, cv, rfl, _, _⟩ := own_form HOW3.out) | (go_at_call 11; refine (Make_any 11 (by decide) 0 (by omega) _ _ [] ([numT 2, numT s, numT r] ++ [x4, x7]) HPS.out _ (Rd.nil _ _) (Rd.of_own (N := []) HOW3.out (by simp)).1 (HT.out.only HO3.out (by simp))).mono ?_; rintro e wm ⟨rfl, ho⟩; have HOF := hide ((HO.out.trans HO3.out).trans ho); clear ho))
  go_ret
  exact makepost HV.out HOF.out

set_option maxRecDepth 100000 in
set_option maxHeartbeats 12800000 in
theorem BodyR_2 (w : World) (s r c : Nat) (x4 x5 x6 x7 x8 x9 x10 x11 x12 : ByteArray) (hF : (Mg.mk 2 s r c x4 x5 x6 x7 x8 x9 x10 x11 x12).Fine) (hR : rightM (Mg.mk 2 s r c x4 x5 x6 x7 x8 x9 x10 x11 x12) = true) : Calls Tryd.prog 43 #[.agg #[.int .i64 2, .int .u32 (s : Nat), .int .u32 (r : Nat), .int .u64 (c : Nat), .string x4, .string x5, .string x6, .string x7, .string x8, .string x9, .string x10, .string x11, .string x12]] w (MakePost (bodyM (Mg.mk 2 s r c x4 x5 x6 x7 x8 x9 x10 x11 x12)) w) := by
  have HV := hide (show bodyM (Mg.mk 2 s r c x4 x5 x6 x7 x8 x9 x10 x11 x12) = makeV 11 0 [] ([numT 2, numT s, numT r] ++ [x4, x7]) by unfold bodyM; rw [if_pos ⟨hR, by show (2 : Int) ≤ 2; omega⟩]; rfl)
  have HRR := hide (fun W => RightR_2 W s r c x4 x5 x6 x7 x8 x9 x10 x11 x12 hF)
  unfold RetB at HRR
  rw [hR] at HRR
  have HTR := hide (fun W => TermsR_2 W s r c x4 x5 x6 x7 x8 x9 x10 x11 x12)
  unfold TermsRPost at HTR
  rw [show (textsM (Mg.mk 2 s r c x4 x5 x6 x7 x8 x9 x10 x11 x12)).length = 4 from rfl] at HTR
  obtain ⟨hs, hr, hc, hx4, hx5, hx6, hx7, hx8, hx9, hx10, hx11, hx12⟩ := hF
  simp only at hs hr hc hx4 hx5 hx6 hx7 hx8 hx9 hx10 hx11 hx12
  have hws : IntKind.u64.wrap (s : Int) = s := by rw [IntKind.wrap_u64]; omega
  have hwr : IntKind.u64.wrap (r : Int) = r := by rw [IntKind.wrap_u64]; omega
  obtain ⟨is, his, hs0, hs1, hs2⟩ := info_parts (show (Tryd.prog.info? 9).map (fun i => (i.zero, i.size, i.bytes)) = some (some (.string ByteArray.empty), 1, 16) by kernel_rfl)
  have HMB := hide (Blk.new w 53 #[.int .i64 2, .int .u32 (s : Nat), .int .u32 (r : Nat), .int .u64 (c : Nat), .string x4, .string x5, .string x6, .string x7, .string x8, .string x9, .string x10, .string x11, .string x12])
  have HO := hide ((Only.refl [] w).alloc (.cells #[.int .i64 2, .int .u32 (s : Nat), .int .u32 (r : Nat), .int .u64 (c : Nat), .string x4, .string x5, .string x6, .string x7, .string x8, .string x9, .string x10, .string x11, .string x12] 53))
  clear hR
  have m0 := HMB.out.cell 0; have m1 := HMB.out.cell 1; have m2 := HMB.out.cell 2; have m3 := HMB.out.cell 3; have m4 := HMB.out.cell 4; have m5 := HMB.out.cell 5; have m6 := HMB.out.cell 6; have m7 := HMB.out.cell 7; have m8 := HMB.out.cell 8; have m9 := HMB.out.cell 9; have m10 := HMB.out.cell 10; have m11 := HMB.out.cell 11; have m12 := HMB.out.cell 12; simp at m0 m1 m2 m3 m4 m5 m6 m7 m8 m9 m10 m11 m12
  go_enter Tryd.func43, Tryd.ntmps43
  go_upto_region 4 with (first | (go_at_call 36; refine (HRR.out _).mono ?_; rintro e v0 ⟨rfl, ho⟩; replace HMB := hide (HMB.out.only ho (by simp)); replace HO := hide (HO.out.trans ho); clear ho m0 m1 m2 m3 m4 m5 m6 m7 m8 m9 m10 m11 m12; have m0 := HMB.out.cell 0; have m1 := HMB.out.cell 1; have m2 := HMB.out.cell 2; have m3 := HMB.out.cell 3; have m4 := HMB.out.cell 4; have m5 := HMB.out.cell 5; have m6 := HMB.out.cell 6; have m7 := HMB.out.cell 7; have m8 := HMB.out.cell 8; have m9 := HMB.out.cell 9; have m10 := HMB.out.cell 10; have m11 := HMB.out.cell 11; have m12 := HMB.out.cell 12; simp at m0 m1 m2 m3 m4 m5 m6 m7 m8 m9 m10 m11 m12) | (go_at_call 42; refine (HTR.out _).mono ?_; rintro e v1 ⟨g, rfl, hg, hb, ho⟩; have HRD := hide (show Rd v1 [] (.slice (some ⟨g, 0, none⟩) 4 4) (strs [x4, x7, x11, x12]) from blk_strs hb [] (by simp) (by unfold maxLen; show 4 ≤ _; omega)); replace HMB := hide (HMB.out.only ho (by simp)); replace HO := hide (HO.out.trans ho); clear hg hb ho m0))
  refine wp_region_held_drew (S := fun W => Only [] v1 W) (by kernel_rfl) (by exact (Only.refl [] v1).drew) (fun hHeld => ?_)
  refine wpAnyH_take (i := 0) (v := ?_) rfl (by kernel_rfl) (by kernel_rfl) (by kernel_rfl) (fun _ _ _ h => h) (Or.inl ⟨by rfl, ?_⟩) (by assumption) ?_
  rotate_left
  · (intro w hSw; (try dsimp only at hSw); go_simp; try with_reducible rfl)
  try simp only [List.getElem_toArray, List.getElem_cons_succ, List.getElem_cons_zero, Act.put, List.setIfInBounds_toArray, List.set_cons_zero, List.set_cons_succ]
  refine wpAnyH_take (i := 1) (v := ?_) rfl (by kernel_rfl) (by kernel_rfl) (by kernel_rfl) (fun _ _ _ h => h) (Or.inl ⟨by rfl, ?_⟩) (by assumption) ?_
  rotate_left
  · (intro w hSw; (try dsimp only at hSw); have HMw := HMB.out.only hSw (by simp); have m0 := (hide HMw).out.cell 0; simp at m0; go_simp; try with_reducible rfl)
  try simp only [List.getElem_toArray, List.getElem_cons_succ, List.getElem_cons_zero, Act.put, List.setIfInBounds_toArray, List.set_cons_zero, List.set_cons_succ]
  refine wpAnyH_take (i := 2) (v := ?_) rfl (by kernel_rfl) (by kernel_rfl) (by kernel_rfl) (fun _ _ _ h => h) (Or.inl ⟨by rfl, ?_⟩) (by assumption) ?_
  rotate_left
  · (intro w hSw; (try dsimp only at hSw); go_simp; try with_reducible rfl)
  try simp only [List.getElem_toArray, List.getElem_cons_succ, List.getElem_cons_zero, Act.put, List.setIfInBounds_toArray, List.set_cons_zero, List.set_cons_succ]
  refine wpAnyH_take (i := 4) (v := ?_) rfl (by kernel_rfl) (by kernel_rfl) (by kernel_rfl) (fun _ _ _ h => h) (Or.inl ⟨by rfl, ?_⟩) (by assumption) ?_
  rotate_left
  · (intro w hSw; (try dsimp only at hSw); go_simp; try with_reducible rfl)
  try simp only [List.getElem_toArray, List.getElem_cons_succ, List.getElem_cons_zero, Act.put, List.setIfInBounds_toArray, List.set_cons_zero, List.set_cons_succ]
  refine wpAnyH_take (i := 5) (v := ?_) rfl (by kernel_rfl) (by kernel_rfl) (by kernel_rfl) (fun _ _ _ h => h) (Or.inl ⟨by rfl, ?_⟩) (by assumption) ?_
  rotate_left
  · (intro w hSw; (try dsimp only at hSw); have HMw := HMB.out.only hSw (by simp); have m1 := (hide HMw).out.cell 1; simp at m1; go_simp; try with_reducible rfl)
  try simp only [List.getElem_toArray, List.getElem_cons_succ, List.getElem_cons_zero, Act.put, List.setIfInBounds_toArray, List.set_cons_zero, List.set_cons_succ]
  refine wpAnyH_take (i := 6) (v := ?_) rfl (by kernel_rfl) (by kernel_rfl) (by kernel_rfl) (fun _ _ _ h => h) (Or.inl ⟨by rfl, ?_⟩) (by assumption) ?_
  rotate_left
  · (intro w hSw; (try dsimp only at hSw); go_simp; try with_reducible rfl)
  try simp only [List.getElem_toArray, List.getElem_cons_succ, List.getElem_cons_zero, Act.put, List.setIfInBounds_toArray, List.set_cons_zero, List.set_cons_succ]
  refine wpAnyH_take (i := 8) (v := ?_) rfl (by kernel_rfl) (by kernel_rfl) (by kernel_rfl) (fun _ _ _ h => h) (Or.inl ⟨by rfl, ?_⟩) (by assumption) ?_
  rotate_left
  · (intro w hSw; (try dsimp only at hSw); go_simp; try with_reducible rfl)
  try simp only [List.getElem_toArray, List.getElem_cons_succ, List.getElem_cons_zero, Act.put, List.setIfInBounds_toArray, List.set_cons_zero, List.set_cons_succ]
  refine wpAnyH_take (i := 9) (v := ?_) rfl (by kernel_rfl) (by kernel_rfl) (by kernel_rfl) (fun _ _ _ h => h) (Or.inl ⟨by rfl, ?_⟩) (by assumption) ?_
  rotate_left
  · (intro w hSw; (try dsimp only at hSw); have HMw := HMB.out.only hSw (by simp); have m2 := (hide HMw).out.cell 2; simp at m2; go_simp; try with_reducible rfl)
  try simp only [List.getElem_toArray, List.getElem_cons_succ, List.getElem_cons_zero, Act.put, List.setIfInBounds_toArray, List.set_cons_zero, List.set_cons_succ]
  refine wpAnyH_take (i := 10) (v := ?_) rfl (by kernel_rfl) (by kernel_rfl) (by kernel_rfl) (fun _ _ _ h => h) (Or.inl ⟨by rfl, ?_⟩) (by assumption) ?_
  rotate_left
  · (intro w hSw; (try dsimp only at hSw); go_simp; try with_reducible rfl)
  try simp only [List.getElem_toArray, List.getElem_cons_succ, List.getElem_cons_zero, Act.put, List.setIfInBounds_toArray, List.set_cons_zero, List.set_cons_succ]
  refine wpAnyH_ready (rs := [3]) (by kernel_rfl) (by simp) ?_
  refine AllReadyH.cons rfl (fun K hK => ?_) AllReadyH.nil
  go_simp
  (go_at_call 69; refine (NumberR_any _ 2 (by omega)).mono ?_; rintro e wz ⟨rfl, ho⟩)
  refine hK.out _ _ (by exact hHeld.trans ho) (fun hHeld => ?_)
  clear hK K ho
  try simp only [List.getElem_toArray, List.getElem_cons_succ, List.getElem_cons_zero, Act.put, List.setIfInBounds_toArray, List.set_cons_zero, List.set_cons_succ]
  refine wpAnyH_ready (rs := [7]) (by kernel_rfl) (by simp) ?_
  refine AllReadyH.cons rfl (fun K hK => ?_) AllReadyH.nil
  go_simp
  (go_at_call 69; refine (NumberR_any _ s (by omega)).mono ?_; rintro e wz ⟨rfl, ho⟩)
  refine hK.out _ _ (by exact hHeld.trans ho) (fun hHeld => ?_)
  clear hK K ho
  try simp only [List.getElem_toArray, List.getElem_cons_succ, List.getElem_cons_zero, Act.put, List.setIfInBounds_toArray, List.set_cons_zero, List.set_cons_succ]
  refine wpAnyH_ready (rs := [11]) (by kernel_rfl) (by simp) ?_
  refine AllReadyH.cons rfl (fun K hK => ?_) AllReadyH.nil
  go_simp
  (go_at_call 69; refine (NumberR_any _ r (by omega)).mono ?_; rintro e wz ⟨rfl, ho⟩)
  refine hK.out _ _ (by exact hHeld.trans ho) (fun hHeld => ?_)
  clear hK K ho
  try simp only [List.getElem_toArray, List.getElem_cons_succ, List.getElem_cons_zero, Act.put, List.setIfInBounds_toArray, List.set_cons_zero, List.set_cons_succ]
  refine wpAnyH_ready (rs := [12]) (by kernel_rfl) (by simp) ?_
  refine AllReadyH.cons rfl (fun K hK => ?_) AllReadyH.nil
  go_simp
  have HZ0 := hide hHeld.size
  refine hK.out _ _ (by exact hHeld.alloc _) (fun hHeld => ?_)
  clear hK K
  try simp only [List.getElem_toArray, List.getElem_cons_succ, List.getElem_cons_zero, Act.put, List.setIfInBounds_toArray, List.set_cons_zero, List.set_cons_succ]
  refine wpAnyH_take (i := 13) (v := ?_) rfl (by kernel_rfl) (by kernel_rfl) (by kernel_rfl) (fun _ _ _ h => h) (Or.inl ⟨by rfl, ?_⟩) (by assumption) ?_
  rotate_left
  · (intro w hSw; (try dsimp only at hSw); go_simp; try with_reducible rfl)
  try simp only [List.getElem_toArray, List.getElem_cons_succ, List.getElem_cons_zero, Act.put, List.setIfInBounds_toArray, List.set_cons_zero, List.set_cons_succ]
  refine wpAnyH_done (by kernel_rfl) ?_ _
  have hz1 := make_size' 3 2 [] [] (by omega)
  have hz2 := make_size' 3 s [] [] (by omega)
  have hz3 := make_size' 3 r [] [] (by omega)
  have HOW := hide (show (wz.alloc (.cells #[.string (numT 2), .string (numT s), .string (numT r)] 9)).ownsRow wz.heap.size 9 1 (.slice (some ⟨wz.heap.size, 0, none⟩) 3 3) 3 (strs [numT 2, numT s, numT r]) from World.ownsRow_lit wz #[.string (numT 2), .string (numT s), .string (numT r)] 3 (Nat.le_refl _) (by unfold maxLen; omega) rfl)
  have HHD := hide hHeld
  have HRT := hide (show Rd (wz.alloc (.cells #[.string (numT 2), .string (numT s), .string (numT r)] 9)) [] (.slice (some ⟨g, 0, none⟩) 2 4) (strs [x4, x7]) from (HRD.out.only hHeld (by simp)).take 2 (by omega))
  have HSZ := hide (show wz.heap.size ≤ (wz.alloc (.cells #[.string (numT 2), .string (numT s), .string (numT r)] 9)).heap.size by simp)
  have HBZ := hide (show v1.heap.size ≤ wz.heap.size from HZ0.out)
  generalize (wz.alloc (.cells #[.string (numT 2), .string (numT s), .string (numT r)] 9)) = wp at *
  have HPS := hide (show ∀ p ∈ [numT 2, numT s, numT r] ++ [x4, x7], p.size ≤ maxLen by intro p hp; simp at hp; rcases hp with rfl | rfl | rfl | rfl | rfl; all_goals assumption)
  go_wp2_with (first | (at_builtin; refine wpList_append_any _ rfl (.tmp 28) (.tmp 33) 31 rfl wz.heap.size 9 is (.string ByteArray.empty) 1 16 Tryd.underlying31 his hs0 hs1 hs2 rfl (by decide) _ 3 _ rfl HOW.out wp.heap.size (some ⟨g, 0, none⟩) 2 4 (strs [x4, x7]) rfl HRT.out.reads (by intro u hu; obtain ⟨x, _, rfl⟩ := List.mem_map.1 hu; rfl) (by unfold maxLen; omega) (by omega) HSZ.out ?_; intro vv w3 hown1 hg1 _; have HOW3 := hide (show w3.ownsRow wz.heap.size 9 1 vv 5 (strs ([numT 2, numT s, numT r] ++ [x4, x7])) from hown1); have HO3 := hide (show Only [] v1 w3 from HHD.out.grown hg1 (fun jj hjj => .inr (by have := own_block_ge HOW.out hjj; have := HBZ.out; omega))); clear hown1 hg1; obtain ⟨Av, cv, rfl, _, _⟩ := own_form HOW3.out) | (go_at_call 77; refine (ListR_any _ _ ([numT 2, numT s, numT r] ++ [x4, x7]) (by simp) HPS.out (Rd.of_own (N := []) HOW3.out (by simp)).1).mono ?_; rintro e wm ⟨rfl, ho⟩; have HOF := hide ((HO.out.trans HO3.out).trans ho); clear ho))
  go_ret
  exact makepost HV.out HOF.out
end
section
open Go.RowKit Go.Deep

set_option maxRecDepth 100000 in
set_option maxHeartbeats 12800000 in
theorem RightR_3 (w : World) (s r c : Nat) (x4 x5 x6 x7 x8 x9 x10 x11 x12 : ByteArray) (hF : (Mg.mk 3 s r c x4 x5 x6 x7 x8 x9 x10 x11 x12).Fine) : Calls Tryd.prog 36 #[.agg #[.int .i64 3, .int .u32 (s : Nat), .int .u32 (r : Nat), .int .u64 (c : Nat), .string x4, .string x5, .string x6, .string x7, .string x8, .string x9, .string x10, .string x11, .string x12]] w (RetB (rightM (Mg.mk 3 s r c x4 x5 x6 x7 x8 x9 x10 x11 x12)) w) := by
  obtain ⟨hs, hr, hc, hx4, hx5, hx6, hx7, hx8, hx9, hx10, hx11, hx12⟩ := hF
  simp only at hs hr hc hx4 hx5 hx6 hx7 hx8 hx9 hx10 hx11 hx12
  have HTR := hide (fun W => TermsR_3 W s r c x4 x5 x6 x7 x8 x9 x10 x11 x12)
  unfold TermsRPost at HTR
  rw [show (textsM (Mg.mk 3 s r c x4 x5 x6 x7 x8 x9 x10 x11 x12)).length = 2 from rfl] at HTR
  have HMB := hide (Blk.new w 53 #[.int .i64 3, .int .u32 (s : Nat), .int .u32 (r : Nat), .int .u64 (c : Nat), .string x4, .string x5, .string x6, .string x7, .string x8, .string x9, .string x10, .string x11, .string x12])
  have HO := hide ((Only.refl [] w).alloc (.cells #[.int .i64 3, .int .u32 (s : Nat), .int .u32 (r : Nat), .int .u64 (c : Nat), .string x4, .string x5, .string x6, .string x7, .string x8, .string x9, .string x10, .string x11, .string x12] 53))
  have m0 := HMB.out.cell 0; have m1 := HMB.out.cell 1; have m2 := HMB.out.cell 2; have m3 := HMB.out.cell 3; have m4 := HMB.out.cell 4; have m5 := HMB.out.cell 5; have m6 := HMB.out.cell 6; have m7 := HMB.out.cell 7; have m8 := HMB.out.cell 8; have m9 := HMB.out.cell 9; have m10 := HMB.out.cell 10; have m11 := HMB.out.cell 11; have m12 := HMB.out.cell 12; simp at m0 m1 m2 m3 m4 m5 m6 m7 m8 m9 m10 m11 m12
  go_enter Tryd.func36, Tryd.ntmps36
  go_upto_region 5 with (go_at_call 42; refine (HTR.out _).mono ?_; rintro e v0 ⟨g, rfl, hg, hb, ho⟩; have HTB := hide (show Blk v0 g 9 #[.string x8, .string x9] from hb); replace HMB := hide (HMB.out.only ho (by simp)); replace HO := hide (HO.out.trans ho); clear hg hb ho m0 m1 m2 m3 m4 m5 m6 m7 m8 m9 m10 m11 m12)
  refine wp_loop_rounds 3 ?_
  rw [rounds_succ]
  have cj := HTB.out.cell 0; simp at cj
  by_cases hz : 65535 < x8.size
  case pos =>
    have hzI : (65535 : Int) < x8.size := by omega
    have HV := hide (show rightM (Mg.mk 3 s r c x4 x5 x6 x7 x8 x9 x10 x11 x12) = false by simp [rightM, textsM, show fitW x8 = false by unfold fitW; rw [decide_eq_false (by omega)]; rfl])
    clear hz
    go_wp2_with fail
    go_ret
    exact retb HV.out HO.out
  have hzI : ¬ (65535 : Int) < x8.size := by omega
  have HIS := hide (fun W => isR_all W x8 hx8)
  unfold RetB at HIS
  cases hp : (parseV x8).isSome
  case false =>
    rw [hp] at HIS
    have HV := hide (show rightM (Mg.mk 3 s r c x4 x5 x6 x7 x8 x9 x10 x11 x12) = false by simp [rightM, textsM, show fitW x8 = false by unfold fitW; rw [hp, Bool.and_false]])
    clear hz hp
    go_wp2_with (go_at_call 12; refine (HIS.out _).mono ?_; rintro e w3 ⟨rfl, ho⟩; replace HO := hide (HO.out.trans ho); clear ho)
    go_ret
    exact retb HV.out HO.out
  rw [hp] at HIS
  have HB8 := hide (show fitW x8 = true by unfold fitW; rw [hp, Bool.and_true]; exact decide_eq_true (by omega))
  clear hz hp
  go_wp2_with (go_at_call 12; refine (HIS.out _).mono ?_; rintro e v1 ⟨rfl, ho⟩; replace HMB := hide (HMB.out.only ho (by simp)); replace HTB := hide (HTB.out.only ho (by simp)); replace HO := hide (HO.out.trans ho); clear ho)
  clear cj HIS hzI
  rw [rounds_succ]
  have cj := HTB.out.cell 1; simp at cj
  by_cases hz : 65535 < x9.size
  case pos =>
    have hzI : (65535 : Int) < x9.size := by omega
    have HV := hide (show rightM (Mg.mk 3 s r c x4 x5 x6 x7 x8 x9 x10 x11 x12) = false by simp [rightM, textsM, show fitW x9 = false by unfold fitW; rw [decide_eq_false (by omega)]; rfl])
    clear hz
    go_wp2_with fail
    go_ret
    exact retb HV.out HO.out
  have hzI : ¬ (65535 : Int) < x9.size := by omega
  have HIS := hide (fun W => isR_all W x9 hx9)
  unfold RetB at HIS
  cases hp : (parseV x9).isSome
  case false =>
    rw [hp] at HIS
    have HV := hide (show rightM (Mg.mk 3 s r c x4 x5 x6 x7 x8 x9 x10 x11 x12) = false by simp [rightM, textsM, show fitW x9 = false by unfold fitW; rw [hp, Bool.and_false]])
    clear hz hp
    go_wp2_with (go_at_call 12; refine (HIS.out _).mono ?_; rintro e w3 ⟨rfl, ho⟩; replace HO := hide (HO.out.trans ho); clear ho)
    go_ret
    exact retb HV.out HO.out
  rw [hp] at HIS
  have HB9 := hide (show fitW x9 = true by unfold fitW; rw [hp, Bool.and_true]; exact decide_eq_true (by omega))
  clear hz hp
  go_wp2_with (go_at_call 12; refine (HIS.out _).mono ?_; rintro e v2 ⟨rfl, ho⟩; replace HMB := hide (HMB.out.only ho (by simp)); replace HTB := hide (HTB.out.only ho (by simp)); replace HO := hide (HO.out.trans ho); clear ho)
  clear cj HIS hzI
  rw [rounds_succ]
  have heq : ∀ W : World, (binOp .eql 53 (.agg #[.int .i64 3, .int .u32 0, .int .u32 (r : Nat), .int .u64 0, .string ⟨#[]⟩, .string ⟨#[]⟩, .string ⟨#[]⟩, .string ⟨#[]⟩, .string x8, .string x9, .string ⟨#[]⟩, .string ⟨#[]⟩, .string ⟨#[]⟩]) (.agg #[.int .i64 3, .int .u32 (s : Nat), .int .u32 (r : Nat), .int .u64 (c : Nat), .string x4, .string x5, .string x6, .string x7, .string x8, .string x9, .string x10, .string x11, .string x12])).run Tryd.prog W = .ok (.bool (eqM (onlyM (Mg.mk 3 s r c x4 x5 x6 x7 x8 x9 x10 x11 x12)) (Mg.mk 3 s r c x4 x5 x6 x7 x8 x9 x10 x11 x12))) W := fun W => msg_eql (onlyM (Mg.mk 3 s r c x4 x5 x6 x7 x8 x9 x10 x11 x12)) (Mg.mk 3 s r c x4 x5 x6 x7 x8 x9 x10 x11 x12) W
  have HV := hide (show rightM (Mg.mk 3 s r c x4 x5 x6 x7 x8 x9 x10 x11 x12) = eqM (onlyM (Mg.mk 3 s r c x4 x5 x6 x7 x8 x9 x10 x11 x12)) (Mg.mk 3 s r c x4 x5 x6 x7 x8 x9 x10 x11 x12) by simp [rightM, textsM, HB8.out, HB9.out])
  generalize eqM (onlyM (Mg.mk 3 s r c x4 x5 x6 x7 x8 x9 x10 x11 x12)) (Mg.mk 3 s r c x4 x5 x6 x7 x8 x9 x10 x11 x12) = B at *
  have HW := hide (fun W (h0 : W.cell? ⟨g, 0, none⟩ = some (.string x8)) (h1 : W.cell? ⟨g, 1, none⟩ = some (.string x9)) => With_3 W s r c g 0 2 x8 x9 (by omega) (by first | exact h0 | simpa using h0) (by first | exact h1 | simpa using h1))
  go_wp2_with fail
  refine wp_region_held_drew (S := fun W => Only [] v2 W) (by kernel_rfl) (by exact (Only.refl [] v2).drew) (fun hHeld => ?_)
  refine wpAnyH_take (i := 0) (v := ?_) rfl (by kernel_rfl) (by kernel_rfl) (by kernel_rfl) (fun _ _ _ h => h) (Or.inl ⟨by rfl, ?_⟩) (by assumption) ?_
  rotate_left
  · (intro w hSw; (try dsimp only at hSw); go_simp; try with_reducible rfl)
  try simp only [List.getElem_toArray, List.getElem_cons_succ, List.getElem_cons_zero, Act.put, List.setIfInBounds_toArray, List.set_cons_zero, List.set_cons_succ]
  refine wpAnyH_take (i := 1) (v := ?_) rfl (by kernel_rfl) (by kernel_rfl) (by kernel_rfl) (fun _ _ _ h => h) (Or.inl ⟨by rfl, ?_⟩) (by assumption) ?_
  rotate_left
  · (intro w hSw; (try dsimp only at hSw); have HMw := HMB.out.only hSw (by simp); have m0 := (hide HMw).out.cell 0; simp at m0; go_simp; try with_reducible rfl)
  try simp only [List.getElem_toArray, List.getElem_cons_succ, List.getElem_cons_zero, Act.put, List.setIfInBounds_toArray, List.set_cons_zero, List.set_cons_succ]
  refine wpAnyH_take (i := 2) (v := ?_) rfl (by kernel_rfl) (by kernel_rfl) (by kernel_rfl) (fun _ _ _ h => h) (Or.inl ⟨by rfl, ?_⟩) (by assumption) ?_
  rotate_left
  · (intro w hSw; (try dsimp only at hSw); go_simp; try with_reducible rfl)
  try simp only [List.getElem_toArray, List.getElem_cons_succ, List.getElem_cons_zero, Act.put, List.setIfInBounds_toArray, List.set_cons_zero, List.set_cons_succ]
  refine wpAnyH_take (i := 3) (v := ?_) rfl (by kernel_rfl) (by kernel_rfl) (by kernel_rfl) (fun _ _ _ h => h) (Or.inl ⟨by rfl, ?_⟩) (by assumption) ?_
  rotate_left
  · (intro w hSw; (try dsimp only at hSw); have HMw := HMB.out.only hSw (by simp); have m1 := (hide HMw).out.cell 1; simp at m1; go_simp; try with_reducible rfl)
  try simp only [List.getElem_toArray, List.getElem_cons_succ, List.getElem_cons_zero, Act.put, List.setIfInBounds_toArray, List.set_cons_zero, List.set_cons_succ]
  refine wpAnyH_take (i := 4) (v := ?_) rfl (by kernel_rfl) (by kernel_rfl) (by kernel_rfl) (fun _ _ _ h => h) (Or.inl ⟨by rfl, ?_⟩) (by assumption) ?_
  rotate_left
  · (intro w hSw; (try dsimp only at hSw); go_simp; try with_reducible rfl)
  try simp only [List.getElem_toArray, List.getElem_cons_succ, List.getElem_cons_zero, Act.put, List.setIfInBounds_toArray, List.set_cons_zero, List.set_cons_succ]
  refine wpAnyH_take (i := 5) (v := ?_) rfl (by kernel_rfl) (by kernel_rfl) (by kernel_rfl) (fun _ _ _ h => h) (Or.inl ⟨by rfl, ?_⟩) (by assumption) ?_
  rotate_left
  · (intro w hSw; (try dsimp only at hSw); have HMw := HMB.out.only hSw (by simp); have m2 := (hide HMw).out.cell 2; simp at m2; go_simp; try with_reducible rfl)
  try simp only [List.getElem_toArray, List.getElem_cons_succ, List.getElem_cons_zero, Act.put, List.setIfInBounds_toArray, List.set_cons_zero, List.set_cons_succ]
  refine wpAnyH_take (i := 6) (v := ?_) rfl (by kernel_rfl) (by kernel_rfl) (by kernel_rfl) (fun _ _ _ h => h) (Or.inl ⟨by rfl, ?_⟩) (by assumption) ?_
  rotate_left
  · (intro w hSw; (try dsimp only at hSw); go_simp; try with_reducible rfl)
  try simp only [List.getElem_toArray, List.getElem_cons_succ, List.getElem_cons_zero, Act.put, List.setIfInBounds_toArray, List.set_cons_zero, List.set_cons_succ]
  refine wpAnyH_take (i := 7) (v := ?_) rfl (by kernel_rfl) (by kernel_rfl) (by kernel_rfl) (fun _ _ _ h => h) (Or.inl ⟨by rfl, ?_⟩) (by assumption) ?_
  rotate_left
  · (intro w hSw; (try dsimp only at hSw); have HMw := HMB.out.only hSw (by simp); have m3 := (hide HMw).out.cell 3; simp at m3; go_simp; try with_reducible rfl)
  try simp only [List.getElem_toArray, List.getElem_cons_succ, List.getElem_cons_zero, Act.put, List.setIfInBounds_toArray, List.set_cons_zero, List.set_cons_succ]
  refine wpAnyH_take (i := 8) (v := ?_) rfl (by kernel_rfl) (by kernel_rfl) (by kernel_rfl) (fun _ _ _ h => h) (Or.inl ⟨by rfl, ?_⟩) (by assumption) ?_
  rotate_left
  · (intro w hSw; (try dsimp only at hSw); go_simp; try with_reducible rfl)
  try simp only [List.getElem_toArray, List.getElem_cons_succ, List.getElem_cons_zero, Act.put, List.setIfInBounds_toArray, List.set_cons_zero, List.set_cons_succ]
  refine wpAnyH_take (i := 10) (v := ?_) rfl (by kernel_rfl) (by kernel_rfl) (by kernel_rfl) (fun _ _ _ h => h) (Or.inl ⟨by rfl, ?_⟩) (by assumption) ?_
  rotate_left
  · (intro w hSw; (try dsimp only at hSw); have HMw := HMB.out.only hSw (by simp); have m0 := (hide HMw).out.cell 0; have m1 := (hide HMw).out.cell 1; have m2 := (hide HMw).out.cell 2; have m3 := (hide HMw).out.cell 3; have m4 := (hide HMw).out.cell 4; have m5 := (hide HMw).out.cell 5; have m6 := (hide HMw).out.cell 6; have m7 := (hide HMw).out.cell 7; have m8 := (hide HMw).out.cell 8; have m9 := (hide HMw).out.cell 9; have m10 := (hide HMw).out.cell 10; have m11 := (hide HMw).out.cell 11; have m12 := (hide HMw).out.cell 12; simp at m0 m1 m2 m3 m4 m5 m6 m7 m8 m9 m10 m11 m12; go_simp; try with_reducible rfl)
  try simp only [List.getElem_toArray, List.getElem_cons_succ, List.getElem_cons_zero, Act.put, List.setIfInBounds_toArray, List.set_cons_zero, List.set_cons_succ]
  refine wpAnyH_ready (rs := [9]) (by kernel_rfl) (by simp) ?_
  refine AllReadyH.cons rfl (fun K hK => ?_) AllReadyH.nil
  go_simp
  (go_at_call 72; refine (HW.out _ (by have h := (HTB.out.only hHeld (by simp)).cell 0; simpa using h) (by have h := (HTB.out.only hHeld (by simp)).cell 1; simpa using h)).mono ?_; rintro e wz ⟨rfl, ho⟩)
  refine hK.out _ _ (by exact hHeld.trans ho) (fun hHeld => ?_)
  clear hK K ho
  try simp only [List.getElem_toArray, List.getElem_cons_succ, List.getElem_cons_zero, Act.put, List.setIfInBounds_toArray, List.set_cons_zero, List.set_cons_succ]
  refine wpAnyH_take (i := 11) (v := ?_) rfl (by kernel_rfl) (by kernel_rfl) (by kernel_rfl) (fun _ _ _ h => h) (Or.inl ⟨by rfl, ?_⟩) (by assumption) ?_
  rotate_left
  · (intro w hSw; (try dsimp only at hSw); go_simp; try with_reducible rfl)
  try simp only [List.getElem_toArray, List.getElem_cons_succ, List.getElem_cons_zero, Act.put, List.setIfInBounds_toArray, List.set_cons_zero, List.set_cons_succ]
  refine wpAnyH_take (i := 12) (v := ?_) rfl (by kernel_rfl) (by kernel_rfl) (by kernel_rfl) (fun _ _ _ h => h) (Or.inl ⟨by rfl, ?_⟩) (by assumption) ?_
  rotate_left
  · (intro w hSw; (try dsimp only at hSw); go_simp; try with_reducible rfl)
  try simp only [List.getElem_toArray, List.getElem_cons_succ, List.getElem_cons_zero, Act.put, List.setIfInBounds_toArray, List.set_cons_zero, List.set_cons_succ]
  refine wpAnyH_done (by kernel_rfl) ?_ _
  go_wp2_with fail
  go_ret
  exact retb HV.out (HO.out.trans hHeld)
end
section
open Go.RowKit Go.Deep

set_option maxRecDepth 100000 in
set_option maxHeartbeats 12800000 in
theorem RightR_4 (w : World) (s r c : Nat) (x4 x5 x6 x7 x8 x9 x10 x11 x12 : ByteArray) (hF : (Mg.mk 4 s r c x4 x5 x6 x7 x8 x9 x10 x11 x12).Fine) : Calls Tryd.prog 36 #[.agg #[.int .i64 4, .int .u32 (s : Nat), .int .u32 (r : Nat), .int .u64 (c : Nat), .string x4, .string x5, .string x6, .string x7, .string x8, .string x9, .string x10, .string x11, .string x12]] w (RetB (rightM (Mg.mk 4 s r c x4 x5 x6 x7 x8 x9 x10 x11 x12)) w) := by
  obtain ⟨hs, hr, hc, hx4, hx5, hx6, hx7, hx8, hx9, hx10, hx11, hx12⟩ := hF
  simp only at hs hr hc hx4 hx5 hx6 hx7 hx8 hx9 hx10 hx11 hx12
  have HTR := hide (fun W => TermsR_4 W s r c x4 x5 x6 x7 x8 x9 x10 x11 x12)
  unfold TermsRPost at HTR
  rw [show (textsM (Mg.mk 4 s r c x4 x5 x6 x7 x8 x9 x10 x11 x12)).length = 1 from rfl] at HTR
  have HMB := hide (Blk.new w 53 #[.int .i64 4, .int .u32 (s : Nat), .int .u32 (r : Nat), .int .u64 (c : Nat), .string x4, .string x5, .string x6, .string x7, .string x8, .string x9, .string x10, .string x11, .string x12])
  have HO := hide ((Only.refl [] w).alloc (.cells #[.int .i64 4, .int .u32 (s : Nat), .int .u32 (r : Nat), .int .u64 (c : Nat), .string x4, .string x5, .string x6, .string x7, .string x8, .string x9, .string x10, .string x11, .string x12] 53))
  have m0 := HMB.out.cell 0; have m1 := HMB.out.cell 1; have m2 := HMB.out.cell 2; have m3 := HMB.out.cell 3; have m4 := HMB.out.cell 4; have m5 := HMB.out.cell 5; have m6 := HMB.out.cell 6; have m7 := HMB.out.cell 7; have m8 := HMB.out.cell 8; have m9 := HMB.out.cell 9; have m10 := HMB.out.cell 10; have m11 := HMB.out.cell 11; have m12 := HMB.out.cell 12; simp at m0 m1 m2 m3 m4 m5 m6 m7 m8 m9 m10 m11 m12
  go_enter Tryd.func36, Tryd.ntmps36
  go_upto_region 5 with (go_at_call 42; refine (HTR.out _).mono ?_; rintro e v0 ⟨g, rfl, hg, hb, ho⟩; have HTB := hide (show Blk v0 g 9 #[.string x10] from hb); replace HMB := hide (HMB.out.only ho (by simp)); replace HO := hide (HO.out.trans ho); clear hg hb ho m0 m1 m2 m3 m4 m5 m6 m7 m8 m9 m10 m11 m12)
  refine wp_loop_rounds 2 ?_
  rw [rounds_succ]
  have cj := HTB.out.cell 0; simp at cj
  by_cases hz : 65535 < x10.size
  case pos =>
    have hzI : (65535 : Int) < x10.size := by omega
    have HV := hide (show rightM (Mg.mk 4 s r c x4 x5 x6 x7 x8 x9 x10 x11 x12) = false by simp [rightM, textsM, show fitW x10 = false by unfold fitW; rw [decide_eq_false (by omega)]; rfl])
    clear hz
    go_wp2_with fail
    go_ret
    exact retb HV.out HO.out
  have hzI : ¬ (65535 : Int) < x10.size := by omega
  have HIS := hide (fun W => isR_all W x10 hx10)
  unfold RetB at HIS
  cases hp : (parseV x10).isSome
  case false =>
    rw [hp] at HIS
    have HV := hide (show rightM (Mg.mk 4 s r c x4 x5 x6 x7 x8 x9 x10 x11 x12) = false by simp [rightM, textsM, show fitW x10 = false by unfold fitW; rw [hp, Bool.and_false]])
    clear hz hp
    go_wp2_with (go_at_call 12; refine (HIS.out _).mono ?_; rintro e w3 ⟨rfl, ho⟩; replace HO := hide (HO.out.trans ho); clear ho)
    go_ret
    exact retb HV.out HO.out
  rw [hp] at HIS
  have HB10 := hide (show fitW x10 = true by unfold fitW; rw [hp, Bool.and_true]; exact decide_eq_true (by omega))
  clear hz hp
  go_wp2_with (go_at_call 12; refine (HIS.out _).mono ?_; rintro e v1 ⟨rfl, ho⟩; replace HMB := hide (HMB.out.only ho (by simp)); replace HTB := hide (HTB.out.only ho (by simp)); replace HO := hide (HO.out.trans ho); clear ho)
  clear cj HIS hzI
  rw [rounds_succ]
  have heq : ∀ W : World, (binOp .eql 53 (.agg #[.int .i64 4, .int .u32 0, .int .u32 (r : Nat), .int .u64 (c : Nat), .string ⟨#[]⟩, .string ⟨#[]⟩, .string ⟨#[]⟩, .string ⟨#[]⟩, .string ⟨#[]⟩, .string ⟨#[]⟩, .string x10, .string ⟨#[]⟩, .string ⟨#[]⟩]) (.agg #[.int .i64 4, .int .u32 (s : Nat), .int .u32 (r : Nat), .int .u64 (c : Nat), .string x4, .string x5, .string x6, .string x7, .string x8, .string x9, .string x10, .string x11, .string x12])).run Tryd.prog W = .ok (.bool (eqM (onlyM (Mg.mk 4 s r c x4 x5 x6 x7 x8 x9 x10 x11 x12)) (Mg.mk 4 s r c x4 x5 x6 x7 x8 x9 x10 x11 x12))) W := fun W => msg_eql (onlyM (Mg.mk 4 s r c x4 x5 x6 x7 x8 x9 x10 x11 x12)) (Mg.mk 4 s r c x4 x5 x6 x7 x8 x9 x10 x11 x12) W
  have HV := hide (show rightM (Mg.mk 4 s r c x4 x5 x6 x7 x8 x9 x10 x11 x12) = eqM (onlyM (Mg.mk 4 s r c x4 x5 x6 x7 x8 x9 x10 x11 x12)) (Mg.mk 4 s r c x4 x5 x6 x7 x8 x9 x10 x11 x12) by simp [rightM, textsM, HB10.out])
  generalize eqM (onlyM (Mg.mk 4 s r c x4 x5 x6 x7 x8 x9 x10 x11 x12)) (Mg.mk 4 s r c x4 x5 x6 x7 x8 x9 x10 x11 x12) = B at *
  have HW := hide (fun W (h0 : W.cell? ⟨g, 0, none⟩ = some (.string x10)) => With_4 W s r c g 0 1 x10 (by omega) (by first | exact h0 | simpa using h0))
  go_wp2_with fail
  refine wp_region_held_drew (S := fun W => Only [] v1 W) (by kernel_rfl) (by exact (Only.refl [] v1).drew) (fun hHeld => ?_)
  refine wpAnyH_take (i := 0) (v := ?_) rfl (by kernel_rfl) (by kernel_rfl) (by kernel_rfl) (fun _ _ _ h => h) (Or.inl ⟨by rfl, ?_⟩) (by assumption) ?_
  rotate_left
  · (intro w hSw; (try dsimp only at hSw); go_simp; try with_reducible rfl)
  try simp only [List.getElem_toArray, List.getElem_cons_succ, List.getElem_cons_zero, Act.put, List.setIfInBounds_toArray, List.set_cons_zero, List.set_cons_succ]
  refine wpAnyH_take (i := 1) (v := ?_) rfl (by kernel_rfl) (by kernel_rfl) (by kernel_rfl) (fun _ _ _ h => h) (Or.inl ⟨by rfl, ?_⟩) (by assumption) ?_
  rotate_left
  · (intro w hSw; (try dsimp only at hSw); have HMw := HMB.out.only hSw (by simp); have m0 := (hide HMw).out.cell 0; simp at m0; go_simp; try with_reducible rfl)
  try simp only [List.getElem_toArray, List.getElem_cons_succ, List.getElem_cons_zero, Act.put, List.setIfInBounds_toArray, List.set_cons_zero, List.set_cons_succ]
  refine wpAnyH_take (i := 2) (v := ?_) rfl (by kernel_rfl) (by kernel_rfl) (by kernel_rfl) (fun _ _ _ h => h) (Or.inl ⟨by rfl, ?_⟩) (by assumption) ?_
  rotate_left
  · (intro w hSw; (try dsimp only at hSw); go_simp; try with_reducible rfl)
  try simp only [List.getElem_toArray, List.getElem_cons_succ, List.getElem_cons_zero, Act.put, List.setIfInBounds_toArray, List.set_cons_zero, List.set_cons_succ]
  refine wpAnyH_take (i := 3) (v := ?_) rfl (by kernel_rfl) (by kernel_rfl) (by kernel_rfl) (fun _ _ _ h => h) (Or.inl ⟨by rfl, ?_⟩) (by assumption) ?_
  rotate_left
  · (intro w hSw; (try dsimp only at hSw); have HMw := HMB.out.only hSw (by simp); have m1 := (hide HMw).out.cell 1; simp at m1; go_simp; try with_reducible rfl)
  try simp only [List.getElem_toArray, List.getElem_cons_succ, List.getElem_cons_zero, Act.put, List.setIfInBounds_toArray, List.set_cons_zero, List.set_cons_succ]
  refine wpAnyH_take (i := 4) (v := ?_) rfl (by kernel_rfl) (by kernel_rfl) (by kernel_rfl) (fun _ _ _ h => h) (Or.inl ⟨by rfl, ?_⟩) (by assumption) ?_
  rotate_left
  · (intro w hSw; (try dsimp only at hSw); go_simp; try with_reducible rfl)
  try simp only [List.getElem_toArray, List.getElem_cons_succ, List.getElem_cons_zero, Act.put, List.setIfInBounds_toArray, List.set_cons_zero, List.set_cons_succ]
  refine wpAnyH_take (i := 5) (v := ?_) rfl (by kernel_rfl) (by kernel_rfl) (by kernel_rfl) (fun _ _ _ h => h) (Or.inl ⟨by rfl, ?_⟩) (by assumption) ?_
  rotate_left
  · (intro w hSw; (try dsimp only at hSw); have HMw := HMB.out.only hSw (by simp); have m2 := (hide HMw).out.cell 2; simp at m2; go_simp; try with_reducible rfl)
  try simp only [List.getElem_toArray, List.getElem_cons_succ, List.getElem_cons_zero, Act.put, List.setIfInBounds_toArray, List.set_cons_zero, List.set_cons_succ]
  refine wpAnyH_take (i := 6) (v := ?_) rfl (by kernel_rfl) (by kernel_rfl) (by kernel_rfl) (fun _ _ _ h => h) (Or.inl ⟨by rfl, ?_⟩) (by assumption) ?_
  rotate_left
  · (intro w hSw; (try dsimp only at hSw); go_simp; try with_reducible rfl)
  try simp only [List.getElem_toArray, List.getElem_cons_succ, List.getElem_cons_zero, Act.put, List.setIfInBounds_toArray, List.set_cons_zero, List.set_cons_succ]
  refine wpAnyH_take (i := 7) (v := ?_) rfl (by kernel_rfl) (by kernel_rfl) (by kernel_rfl) (fun _ _ _ h => h) (Or.inl ⟨by rfl, ?_⟩) (by assumption) ?_
  rotate_left
  · (intro w hSw; (try dsimp only at hSw); have HMw := HMB.out.only hSw (by simp); have m3 := (hide HMw).out.cell 3; simp at m3; go_simp; try with_reducible rfl)
  try simp only [List.getElem_toArray, List.getElem_cons_succ, List.getElem_cons_zero, Act.put, List.setIfInBounds_toArray, List.set_cons_zero, List.set_cons_succ]
  refine wpAnyH_take (i := 8) (v := ?_) rfl (by kernel_rfl) (by kernel_rfl) (by kernel_rfl) (fun _ _ _ h => h) (Or.inl ⟨by rfl, ?_⟩) (by assumption) ?_
  rotate_left
  · (intro w hSw; (try dsimp only at hSw); go_simp; try with_reducible rfl)
  try simp only [List.getElem_toArray, List.getElem_cons_succ, List.getElem_cons_zero, Act.put, List.setIfInBounds_toArray, List.set_cons_zero, List.set_cons_succ]
  refine wpAnyH_take (i := 10) (v := ?_) rfl (by kernel_rfl) (by kernel_rfl) (by kernel_rfl) (fun _ _ _ h => h) (Or.inl ⟨by rfl, ?_⟩) (by assumption) ?_
  rotate_left
  · (intro w hSw; (try dsimp only at hSw); have HMw := HMB.out.only hSw (by simp); have m0 := (hide HMw).out.cell 0; have m1 := (hide HMw).out.cell 1; have m2 := (hide HMw).out.cell 2; have m3 := (hide HMw).out.cell 3; have m4 := (hide HMw).out.cell 4; have m5 := (hide HMw).out.cell 5; have m6 := (hide HMw).out.cell 6; have m7 := (hide HMw).out.cell 7; have m8 := (hide HMw).out.cell 8; have m9 := (hide HMw).out.cell 9; have m10 := (hide HMw).out.cell 10; have m11 := (hide HMw).out.cell 11; have m12 := (hide HMw).out.cell 12; simp at m0 m1 m2 m3 m4 m5 m6 m7 m8 m9 m10 m11 m12; go_simp; try with_reducible rfl)
  try simp only [List.getElem_toArray, List.getElem_cons_succ, List.getElem_cons_zero, Act.put, List.setIfInBounds_toArray, List.set_cons_zero, List.set_cons_succ]
  refine wpAnyH_ready (rs := [9]) (by kernel_rfl) (by simp) ?_
  refine AllReadyH.cons rfl (fun K hK => ?_) AllReadyH.nil
  go_simp
  (go_at_call 72; refine (HW.out _ (by have h := (HTB.out.only hHeld (by simp)).cell 0; simpa using h)).mono ?_; rintro e wz ⟨rfl, ho⟩)
  refine hK.out _ _ (by exact hHeld.trans ho) (fun hHeld => ?_)
  clear hK K ho
  try simp only [List.getElem_toArray, List.getElem_cons_succ, List.getElem_cons_zero, Act.put, List.setIfInBounds_toArray, List.set_cons_zero, List.set_cons_succ]
  refine wpAnyH_take (i := 11) (v := ?_) rfl (by kernel_rfl) (by kernel_rfl) (by kernel_rfl) (fun _ _ _ h => h) (Or.inl ⟨by rfl, ?_⟩) (by assumption) ?_
  rotate_left
  · (intro w hSw; (try dsimp only at hSw); go_simp; try with_reducible rfl)
  try simp only [List.getElem_toArray, List.getElem_cons_succ, List.getElem_cons_zero, Act.put, List.setIfInBounds_toArray, List.set_cons_zero, List.set_cons_succ]
  refine wpAnyH_take (i := 12) (v := ?_) rfl (by kernel_rfl) (by kernel_rfl) (by kernel_rfl) (fun _ _ _ h => h) (Or.inl ⟨by rfl, ?_⟩) (by assumption) ?_
  rotate_left
  · (intro w hSw; (try dsimp only at hSw); go_simp; try with_reducible rfl)
  try simp only [List.getElem_toArray, List.getElem_cons_succ, List.getElem_cons_zero, Act.put, List.setIfInBounds_toArray, List.set_cons_zero, List.set_cons_succ]
  refine wpAnyH_done (by kernel_rfl) ?_ _
  go_wp2_with fail
  go_ret
  exact retb HV.out (HO.out.trans hHeld)
end
end Go.Proofs.YtfmfnfmhknlpbaaDoor

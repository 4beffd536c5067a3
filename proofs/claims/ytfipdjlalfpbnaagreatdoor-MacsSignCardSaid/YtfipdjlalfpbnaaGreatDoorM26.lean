/-
  Walks and plain words (texts Wqr1). No condition beyond those that each theorem states.
-/
import Derived.Deep.RegionHeld3
import Derived.Test.YtfipdjlalfpbnaaGreatDoorM11
import Derived.Test.YtfipdjlalfpbnaaGreatDoorM17
import Derived.Test.YtfipdjlalfpbnaaGreatDoorM25
namespace Go.Proofs.YtfipdjlalfpbnaaGreatDoor
section
open Go.RowKit Go.Deep

set_option maxRecDepth 100000 in
set_option maxHeartbeats 12800000 in
theorem RightR_1 (w : World) (s r c : Nat) (x4 x5 x6 x7 x8 x9 x10 x11 x12 : ByteArray) (hF : (Mg.mk 1 s r c x4 x5 x6 x7 x8 x9 x10 x11 x12).Fine) : Calls Tryz.prog 49 #[.agg #[.int .i64 1, .int .u32 (s : Nat), .int .u32 (r : Nat), .int .u64 (c : Nat), .string x4, .string x5, .string x6, .string x7, .string x8, .string x9, .string x10, .string x11, .string x12]] w (RetB (rightM (Mg.mk 1 s r c x4 x5 x6 x7 x8 x9 x10 x11 x12)) w) := by
  obtain ⟨hs, hr, hc, hx4, hx5, hx6, hx7, hx8, hx9, hx10, hx11, hx12⟩ := hF
  simp only at hs hr hc hx4 hx5 hx6 hx7 hx8 hx9 hx10 hx11 hx12
  have HTR := hide (fun W => TermsR_1 W s r c x4 x5 x6 x7 x8 x9 x10 x11 x12)
  unfold TermsRPost at HTR
  rw [show (textsM (Mg.mk 1 s r c x4 x5 x6 x7 x8 x9 x10 x11 x12)).length = 5 from rfl] at HTR
  have HMB := hide (Blk.new w 25 #[.int .i64 1, .int .u32 (s : Nat), .int .u32 (r : Nat), .int .u64 (c : Nat), .string x4, .string x5, .string x6, .string x7, .string x8, .string x9, .string x10, .string x11, .string x12])
  have HO := hide ((Only.refl [] w).alloc (.cells #[.int .i64 1, .int .u32 (s : Nat), .int .u32 (r : Nat), .int .u64 (c : Nat), .string x4, .string x5, .string x6, .string x7, .string x8, .string x9, .string x10, .string x11, .string x12] 25))
  have m0 := HMB.out.cell 0; have m1 := HMB.out.cell 1; have m2 := HMB.out.cell 2; have m3 := HMB.out.cell 3; have m4 := HMB.out.cell 4; have m5 := HMB.out.cell 5; have m6 := HMB.out.cell 6; have m7 := HMB.out.cell 7; have m8 := HMB.out.cell 8; have m9 := HMB.out.cell 9; have m10 := HMB.out.cell 10; have m11 := HMB.out.cell 11; have m12 := HMB.out.cell 12; simp at m0 m1 m2 m3 m4 m5 m6 m7 m8 m9 m10 m11 m12
  go_enter Tryz.func49, Tryz.ntmps49
  go_upto_region 5 with (go_at_call 106; refine (HTR.out _).mono ?_; rintro e v0 ⟨g, rfl, hg, hb, ho⟩; have HTB := hide (show Blk v0 g 9 #[.string x4, .string x5, .string x6, .string x11, .string x12] from hb); replace HMB := hide (HMB.out.only ho (by simp)); replace HO := hide (HO.out.trans ho); clear hg hb ho m0 m1 m2 m3 m4 m5 m6 m7 m8 m9 m10 m11 m12)
  refine wp_loop_rounds 6 ?_
  rw [rounds_succ]
  have cj := HTB.out.cell 0; simp at cj
  by_cases hz : 65535 < x4.size
  case pos =>
    have hzI : (65535 : Int) < x4.size := by omega
    have HV := hide (show rightM (Mg.mk 1 s r c x4 x5 x6 x7 x8 x9 x10 x11 x12) = false by simp [rightM, textsM, show fitW x4 = false by unfold fitW; rw [decide_eq_false (by omega)]; rfl])
    clear hz
    go_wp2_with fail
    go_ret
    exact retb HV.out HO.out
  have hzI : ¬ (65535 : Int) < x4.size := by omega
  have HIS := hide (fun W => isR_all W x4 hx4)
  unfold RetB at HIS
  cases hp : (parseV x4).isSome
  case false =>
    rw [hp] at HIS
    have HV := hide (show rightM (Mg.mk 1 s r c x4 x5 x6 x7 x8 x9 x10 x11 x12) = false by simp [rightM, textsM, show fitW x4 = false by unfold fitW; rw [hp, Bool.and_false]])
    clear hz hp
    go_wp2_with (go_at_call 18; refine (HIS.out _).mono ?_; rintro e w3 ⟨rfl, ho⟩; replace HO := hide (HO.out.trans ho); clear ho)
    go_ret
    exact retb HV.out HO.out
  rw [hp] at HIS
  have HB4 := hide (show fitW x4 = true by unfold fitW; rw [hp, Bool.and_true]; exact decide_eq_true (by omega))
  clear hz hp
  go_wp2_with (go_at_call 18; refine (HIS.out _).mono ?_; rintro e v1 ⟨rfl, ho⟩; replace HMB := hide (HMB.out.only ho (by simp)); replace HTB := hide (HTB.out.only ho (by simp)); replace HO := hide (HO.out.trans ho); clear ho)
  clear cj HIS hzI
  rw [rounds_succ]
  have cj := HTB.out.cell 1; simp at cj
  by_cases hz : 65535 < x5.size
  case pos =>
    have hzI : (65535 : Int) < x5.size := by omega
    have HV := hide (show rightM (Mg.mk 1 s r c x4 x5 x6 x7 x8 x9 x10 x11 x12) = false by simp [rightM, textsM, show fitW x5 = false by unfold fitW; rw [decide_eq_false (by omega)]; rfl])
    clear hz
    go_wp2_with fail
    go_ret
    exact retb HV.out HO.out
  have hzI : ¬ (65535 : Int) < x5.size := by omega
  have HIS := hide (fun W => isR_all W x5 hx5)
  unfold RetB at HIS
  cases hp : (parseV x5).isSome
  case false =>
    rw [hp] at HIS
    have HV := hide (show rightM (Mg.mk 1 s r c x4 x5 x6 x7 x8 x9 x10 x11 x12) = false by simp [rightM, textsM, show fitW x5 = false by unfold fitW; rw [hp, Bool.and_false]])
    clear hz hp
    go_wp2_with (go_at_call 18; refine (HIS.out _).mono ?_; rintro e w3 ⟨rfl, ho⟩; replace HO := hide (HO.out.trans ho); clear ho)
    go_ret
    exact retb HV.out HO.out
  rw [hp] at HIS
  have HB5 := hide (show fitW x5 = true by unfold fitW; rw [hp, Bool.and_true]; exact decide_eq_true (by omega))
  clear hz hp
  go_wp2_with (go_at_call 18; refine (HIS.out _).mono ?_; rintro e v2 ⟨rfl, ho⟩; replace HMB := hide (HMB.out.only ho (by simp)); replace HTB := hide (HTB.out.only ho (by simp)); replace HO := hide (HO.out.trans ho); clear ho)
  clear cj HIS hzI
  rw [rounds_succ]
  have cj := HTB.out.cell 2; simp at cj
  by_cases hz : 65535 < x6.size
  case pos =>
    have hzI : (65535 : Int) < x6.size := by omega
    have HV := hide (show rightM (Mg.mk 1 s r c x4 x5 x6 x7 x8 x9 x10 x11 x12) = false by simp [rightM, textsM, show fitW x6 = false by unfold fitW; rw [decide_eq_false (by omega)]; rfl])
    clear hz
    go_wp2_with fail
    go_ret
    exact retb HV.out HO.out
  have hzI : ¬ (65535 : Int) < x6.size := by omega
  have HIS := hide (fun W => isR_all W x6 hx6)
  unfold RetB at HIS
  cases hp : (parseV x6).isSome
  case false =>
    rw [hp] at HIS
    have HV := hide (show rightM (Mg.mk 1 s r c x4 x5 x6 x7 x8 x9 x10 x11 x12) = false by simp [rightM, textsM, show fitW x6 = false by unfold fitW; rw [hp, Bool.and_false]])
    clear hz hp
    go_wp2_with (go_at_call 18; refine (HIS.out _).mono ?_; rintro e w3 ⟨rfl, ho⟩; replace HO := hide (HO.out.trans ho); clear ho)
    go_ret
    exact retb HV.out HO.out
  rw [hp] at HIS
  have HB6 := hide (show fitW x6 = true by unfold fitW; rw [hp, Bool.and_true]; exact decide_eq_true (by omega))
  clear hz hp
  go_wp2_with (go_at_call 18; refine (HIS.out _).mono ?_; rintro e v3 ⟨rfl, ho⟩; replace HMB := hide (HMB.out.only ho (by simp)); replace HTB := hide (HTB.out.only ho (by simp)); replace HO := hide (HO.out.trans ho); clear ho)
  clear cj HIS hzI
  rw [rounds_succ]
  have cj := HTB.out.cell 3; simp at cj
  by_cases hz : 65535 < x11.size
  case pos =>
    have hzI : (65535 : Int) < x11.size := by omega
    have HV := hide (show rightM (Mg.mk 1 s r c x4 x5 x6 x7 x8 x9 x10 x11 x12) = false by simp [rightM, textsM, show fitW x11 = false by unfold fitW; rw [decide_eq_false (by omega)]; rfl])
    clear hz
    go_wp2_with fail
    go_ret
    exact retb HV.out HO.out
  have hzI : ¬ (65535 : Int) < x11.size := by omega
  have HIS := hide (fun W => isR_all W x11 hx11)
  unfold RetB at HIS
  cases hp : (parseV x11).isSome
  case false =>
    rw [hp] at HIS
    have HV := hide (show rightM (Mg.mk 1 s r c x4 x5 x6 x7 x8 x9 x10 x11 x12) = false by simp [rightM, textsM, show fitW x11 = false by unfold fitW; rw [hp, Bool.and_false]])
    clear hz hp
    go_wp2_with (go_at_call 18; refine (HIS.out _).mono ?_; rintro e w3 ⟨rfl, ho⟩; replace HO := hide (HO.out.trans ho); clear ho)
    go_ret
    exact retb HV.out HO.out
  rw [hp] at HIS
  have HB11 := hide (show fitW x11 = true by unfold fitW; rw [hp, Bool.and_true]; exact decide_eq_true (by omega))
  clear hz hp
  go_wp2_with (go_at_call 18; refine (HIS.out _).mono ?_; rintro e v4 ⟨rfl, ho⟩; replace HMB := hide (HMB.out.only ho (by simp)); replace HTB := hide (HTB.out.only ho (by simp)); replace HO := hide (HO.out.trans ho); clear ho)
  clear cj HIS hzI
  rw [rounds_succ]
  have cj := HTB.out.cell 4; simp at cj
  by_cases hz : 65535 < x12.size
  case pos =>
    have hzI : (65535 : Int) < x12.size := by omega
    have HV := hide (show rightM (Mg.mk 1 s r c x4 x5 x6 x7 x8 x9 x10 x11 x12) = false by simp [rightM, textsM, show fitW x12 = false by unfold fitW; rw [decide_eq_false (by omega)]; rfl])
    clear hz
    go_wp2_with fail
    go_ret
    exact retb HV.out HO.out
  have hzI : ¬ (65535 : Int) < x12.size := by omega
  have HIS := hide (fun W => isR_all W x12 hx12)
  unfold RetB at HIS
  cases hp : (parseV x12).isSome
  case false =>
    rw [hp] at HIS
    have HV := hide (show rightM (Mg.mk 1 s r c x4 x5 x6 x7 x8 x9 x10 x11 x12) = false by simp [rightM, textsM, show fitW x12 = false by unfold fitW; rw [hp, Bool.and_false]])
    clear hz hp
    go_wp2_with (go_at_call 18; refine (HIS.out _).mono ?_; rintro e w3 ⟨rfl, ho⟩; replace HO := hide (HO.out.trans ho); clear ho)
    go_ret
    exact retb HV.out HO.out
  rw [hp] at HIS
  have HB12 := hide (show fitW x12 = true by unfold fitW; rw [hp, Bool.and_true]; exact decide_eq_true (by omega))
  clear hz hp
  go_wp2_with (go_at_call 18; refine (HIS.out _).mono ?_; rintro e v5 ⟨rfl, ho⟩; replace HMB := hide (HMB.out.only ho (by simp)); replace HTB := hide (HTB.out.only ho (by simp)); replace HO := hide (HO.out.trans ho); clear ho)
  clear cj HIS hzI
  rw [rounds_succ]
  have heq : ∀ W : World, (binOp .eql 25 (.agg #[.int .i64 1, .int .u32 (s : Nat), .int .u32 0, .int .u64 0, .string x4, .string x5, .string x6, .string ⟨#[]⟩, .string ⟨#[]⟩, .string ⟨#[]⟩, .string ⟨#[]⟩, .string x11, .string x12]) (.agg #[.int .i64 1, .int .u32 (s : Nat), .int .u32 (r : Nat), .int .u64 (c : Nat), .string x4, .string x5, .string x6, .string x7, .string x8, .string x9, .string x10, .string x11, .string x12])).run Tryz.prog W = .ok (.bool (eqM (onlyM (Mg.mk 1 s r c x4 x5 x6 x7 x8 x9 x10 x11 x12)) (Mg.mk 1 s r c x4 x5 x6 x7 x8 x9 x10 x11 x12))) W := fun W => msg_eql (onlyM (Mg.mk 1 s r c x4 x5 x6 x7 x8 x9 x10 x11 x12)) (Mg.mk 1 s r c x4 x5 x6 x7 x8 x9 x10 x11 x12) W
  have HV := hide (show rightM (Mg.mk 1 s r c x4 x5 x6 x7 x8 x9 x10 x11 x12) = eqM (onlyM (Mg.mk 1 s r c x4 x5 x6 x7 x8 x9 x10 x11 x12)) (Mg.mk 1 s r c x4 x5 x6 x7 x8 x9 x10 x11 x12) by simp [rightM, textsM, HB4.out, HB5.out, HB6.out, HB11.out, HB12.out])
  generalize eqM (onlyM (Mg.mk 1 s r c x4 x5 x6 x7 x8 x9 x10 x11 x12)) (Mg.mk 1 s r c x4 x5 x6 x7 x8 x9 x10 x11 x12) = B at *
  have HW := hide (fun W (h0 : W.cell? ⟨g, 0, none⟩ = some (.string x4)) (h1 : W.cell? ⟨g, 1, none⟩ = some (.string x5)) (h2 : W.cell? ⟨g, 2, none⟩ = some (.string x6)) (h3 : W.cell? ⟨g, 3, none⟩ = some (.string x11)) (h4 : W.cell? ⟨g, 4, none⟩ = some (.string x12)) => With_1 W s r c g 0 5 x4 x5 x6 x11 x12 (by omega) (by first | exact h0 | simpa using h0) (by first | exact h1 | simpa using h1) (by first | exact h2 | simpa using h2) (by first | exact h3 | simpa using h3) (by first | exact h4 | simpa using h4))
  go_wp2_with fail
  refine wp_region_held_drew (S := fun W => Only [] v5 W) (by kernel_rfl) (by exact (Only.refl [] v5).drew) (fun hHeld => ?_)
  refine wpAnyH_take (i := 0) (v := ?_) rfl (by kernel_rfl) (by kernel_rfl) (by kernel_rfl) (fun _ _ _ h => h) (Or.inl ⟨by rfl, ?_⟩) (by assumption) ?_
  rotate_left
  · (intro w hSw; (try dsimp only at hSw); go_simp; try with_reducible rfl)
  try simp only [List.getElem_toArray, List.getElem_cons_zero, Act.put, List.setIfInBounds_toArray, List.set_cons_zero, List.set_cons_succ]
  refine wpAnyH_take (i := 1) (v := ?_) rfl (by kernel_rfl) (by kernel_rfl) (by kernel_rfl) (fun _ _ _ h => h) (Or.inl ⟨by rfl, ?_⟩) (by assumption) ?_
  rotate_left
  · (intro w hSw; (try dsimp only at hSw); have HMw := HMB.out.only hSw (by simp); have m0 := (hide HMw).out.cell 0; simp at m0; go_simp; try with_reducible rfl)
  try simp only [List.getElem_toArray, List.getElem_cons_succ, List.getElem_cons_zero, Act.put, List.setIfInBounds_toArray, List.set_cons_zero, List.set_cons_succ]
  refine wpAnyH_take (i := 2) (v := ?_) rfl (by kernel_rfl) (by kernel_rfl) (by kernel_rfl) (fun _ _ _ h => h) (Or.inl ⟨by rfl, ?_⟩) (by assumption) ?_
  rotate_left
  · (intro w hSw; (try dsimp only at hSw); go_simp; try with_reducible rfl)
  try simp only [List.getElem_toArray, List.getElem_cons_succ, List.getElem_cons_zero, Act.put, List.setIfInBounds_toArray, List.set_cons_zero, List.set_cons_succ]
  refine wpAnyH_take (i := 3) (v := ?_) rfl (by kernel_rfl) (by kernel_rfl) (by kernel_rfl) (fun _ _ _ h => h) (Or.inl ⟨by rfl, ?_⟩) (by assumption) ?_
  rotate_left
  · (intro w hSw; (try dsimp only at hSw); have HMw := HMB.out.only hSw (by simp); have m1 := (hide HMw).out.cell 1; simp at m1; go_simp; try with_reducible rfl)
  try simp only [List.getElem_toArray, List.getElem_cons_succ, List.getElem_cons_zero, Act.put, List.setIfInBounds_toArray, List.set_cons_zero, List.set_cons_succ]
  refine wpAnyH_take (i := 4) (v := ?_) rfl (by kernel_rfl) (by kernel_rfl) (by kernel_rfl) (fun _ _ _ h => h) (Or.inl ⟨by rfl, ?_⟩) (by assumption) ?_
  rotate_left
  · (intro w hSw; (try dsimp only at hSw); go_simp; try with_reducible rfl)
  try simp only [List.getElem_toArray, List.getElem_cons_succ, List.getElem_cons_zero, Act.put, List.setIfInBounds_toArray, List.set_cons_zero, List.set_cons_succ]
  refine wpAnyH_take (i := 5) (v := ?_) rfl (by kernel_rfl) (by kernel_rfl) (by kernel_rfl) (fun _ _ _ h => h) (Or.inl ⟨by rfl, ?_⟩) (by assumption) ?_
  rotate_left
  · (intro w hSw; (try dsimp only at hSw); have HMw := HMB.out.only hSw (by simp); have m2 := (hide HMw).out.cell 2; simp at m2; go_simp; try with_reducible rfl)
  try simp only [List.getElem_toArray, List.getElem_cons_succ, List.getElem_cons_zero, Act.put, List.setIfInBounds_toArray, List.set_cons_zero, List.set_cons_succ]
  refine wpAnyH_take (i := 6) (v := ?_) rfl (by kernel_rfl) (by kernel_rfl) (by kernel_rfl) (fun _ _ _ h => h) (Or.inl ⟨by rfl, ?_⟩) (by assumption) ?_
  rotate_left
  · (intro w hSw; (try dsimp only at hSw); go_simp; try with_reducible rfl)
  try simp only [List.getElem_toArray, List.getElem_cons_succ, List.getElem_cons_zero, Act.put, List.setIfInBounds_toArray, List.set_cons_zero, List.set_cons_succ]
  refine wpAnyH_take (i := 7) (v := ?_) rfl (by kernel_rfl) (by kernel_rfl) (by kernel_rfl) (fun _ _ _ h => h) (Or.inl ⟨by rfl, ?_⟩) (by assumption) ?_
  rotate_left
  · (intro w hSw; (try dsimp only at hSw); have HMw := HMB.out.only hSw (by simp); have m3 := (hide HMw).out.cell 3; simp at m3; go_simp; try with_reducible rfl)
  try simp only [List.getElem_toArray, List.getElem_cons_succ, List.getElem_cons_zero, Act.put, List.setIfInBounds_toArray, List.set_cons_zero, List.set_cons_succ]
  refine wpAnyH_take (i := 8) (v := ?_) rfl (by kernel_rfl) (by kernel_rfl) (by kernel_rfl) (fun _ _ _ h => h) (Or.inl ⟨by rfl, ?_⟩) (by assumption) ?_
  rotate_left
  · (intro w hSw; (try dsimp only at hSw); go_simp; try with_reducible rfl)
  try simp only [List.getElem_toArray, List.getElem_cons_succ, List.getElem_cons_zero, Act.put, List.setIfInBounds_toArray, List.set_cons_zero, List.set_cons_succ]
  refine wpAnyH_take (i := 10) (v := ?_) rfl (by kernel_rfl) (by kernel_rfl) (by kernel_rfl) (fun _ _ _ h => h) (Or.inl ⟨by rfl, ?_⟩) (by assumption) ?_
  rotate_left
  · (intro w hSw; (try dsimp only at hSw); have HMw := HMB.out.only hSw (by simp); have m0 := (hide HMw).out.cell 0; have m1 := (hide HMw).out.cell 1; have m2 := (hide HMw).out.cell 2; have m3 := (hide HMw).out.cell 3; have m4 := (hide HMw).out.cell 4; have m5 := (hide HMw).out.cell 5; have m6 := (hide HMw).out.cell 6; have m7 := (hide HMw).out.cell 7; have m8 := (hide HMw).out.cell 8; have m9 := (hide HMw).out.cell 9; have m10 := (hide HMw).out.cell 10; have m11 := (hide HMw).out.cell 11; have m12 := (hide HMw).out.cell 12; simp at m0 m1 m2 m3 m4 m5 m6 m7 m8 m9 m10 m11 m12; go_simp; try with_reducible rfl)
  try simp only [List.getElem_toArray, List.getElem_cons_succ, List.getElem_cons_zero, Act.put, List.setIfInBounds_toArray, List.set_cons_zero, List.set_cons_succ]
  refine wpAnyH_ready (rs := [9]) (by kernel_rfl) (by simp) ?_
  refine AllReadyH.cons rfl (fun K hK => ?_) AllReadyH.nil
  go_simp
  (go_at_call 47; refine (HW.out _ (by have h := (HTB.out.only hHeld (by simp)).cell 0; simpa using h) (by have h := (HTB.out.only hHeld (by simp)).cell 1; simpa using h) (by have h := (HTB.out.only hHeld (by simp)).cell 2; simpa using h) (by have h := (HTB.out.only hHeld (by simp)).cell 3; simpa using h) (by have h := (HTB.out.only hHeld (by simp)).cell 4; simpa using h)).mono ?_; rintro e wz ⟨rfl, ho⟩)
  refine hK.out _ _ (by exact hHeld.trans ho) (fun hHeld => ?_)
  clear hK K ho
  try simp only [List.getElem_toArray, List.getElem_cons_succ, List.getElem_cons_zero, Act.put, List.setIfInBounds_toArray, List.set_cons_zero, List.set_cons_succ]
  refine wpAnyH_take (i := 11) (v := ?_) rfl (by kernel_rfl) (by kernel_rfl) (by kernel_rfl) (fun _ _ _ h => h) (Or.inl ⟨by rfl, ?_⟩) (by assumption) ?_
  rotate_left
  · (intro w hSw; (try dsimp only at hSw); go_simp; try with_reducible rfl)
  try simp only [List.getElem_toArray, List.getElem_cons_succ, List.getElem_cons_zero, Act.put, List.setIfInBounds_toArray, List.set_cons_zero, List.set_cons_succ]
  refine wpAnyH_take (i := 12) (v := ?_) rfl (by kernel_rfl) (by kernel_rfl) (by kernel_rfl) (fun _ _ _ h => h) (Or.inl ⟨by rfl, ?_⟩) (by assumption) ?_
  rotate_left
  · (intro w hSw; (try dsimp only at hSw); go_simp; try with_reducible rfl)
  try simp only [List.getElem_toArray, List.getElem_cons_succ, List.getElem_cons_zero, Act.put, List.setIfInBounds_toArray, List.set_cons_zero, List.set_cons_succ]
  refine wpAnyH_done (by kernel_rfl) ?_ _
  go_wp2_with fail
  go_ret
  exact retb HV.out (HO.out.trans hHeld)
end
end Go.Proofs.YtfipdjlalfpbnaaGreatDoor

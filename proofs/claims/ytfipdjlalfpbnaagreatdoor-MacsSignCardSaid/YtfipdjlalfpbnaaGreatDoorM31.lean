/-
  Walks and plain words (texts Ws, Mc0). No condition beyond those that each theorem states.
-/
import Derived.Test.YtfipdjlalfpbnaaGreatDoorM27
import Derived.Test.YtfipdjlalfpbnaaGreatDoorM29
import Derived.Test.YtfipdjlalfpbnaaGreatDoorM30
namespace Go.Proofs.YtfipdjlalfpbnaaGreatDoor
section
open Go.RowKit Go.Deep

theorem listR_new2 (w : World) (G : Nat) (hG : G = w.heap.size) (x y : ByteArray) (hx : x.size ≤ maxLen) (hy : y.size ≤ maxLen) :
    Calls Tryz.prog 109 #[.slice (some ⟨G, 0, none⟩) 2 2] (w.alloc (.cells #[.string x, .string y] 9)) (MakePost (makeV 11 0 [] [x, y]) w) := by
  subst hG
  exact (ListR_any (w.alloc (.cells #[.string x, .string y] 9)) _ [x, y] (by simp) (fun p hp => by simp at hp; rcases hp with rfl | rfl <;> assumption) (rd_new w 9 [] (strs [x, y]) (by simp) (by unfold maxLen; simp [strs]))).mono fun e w' h => ⟨h.1, ((Only.refl [] w).alloc _).trans h.2⟩
theorem body_none {m : Mg} (h : rightM m = false ∨ 2 < m.k) : bodyM m = ByteArray.empty := by
  unfold bodyM
  rw [if_neg]
  rintro ⟨h1, h2⟩
  rcases h with h | h
  · rw [h] at h1; cases h1
  · omega
set_option maxRecDepth 100000 in
set_option maxHeartbeats 12800000 in
theorem RightR_none (w : World) (m : Mg) (h : ¬ (1 ≤ m.k ∧ m.k ≤ 4)) : Calls Tryz.prog 49 #[.agg m.cells] w (RetB (rightM m) w) := by
  have HV := hide (right_none h)
  obtain ⟨k, s, r, c, x4, x5, x6, x7, x8, x9, x10, x11, x12⟩ := m
  unfold Mg.cells
  simp only at h ⊢
  have HMB := hide (Blk.new w 25 #[.int .i64 k, .int .u32 (s : Nat), .int .u32 (r : Nat), .int .u64 (c : Nat), .string x4, .string x5, .string x6, .string x7, .string x8, .string x9, .string x10, .string x11, .string x12])
  have HO := hide ((Only.refl [] w).alloc (.cells #[.int .i64 k, .int .u32 (s : Nat), .int .u32 (r : Nat), .int .u64 (c : Nat), .string x4, .string x5, .string x6, .string x7, .string x8, .string x9, .string x10, .string x11, .string x12] 25))
  have m0 := HMB.out.cell 0; have m1 := HMB.out.cell 1; have m2 := HMB.out.cell 2; have m3 := HMB.out.cell 3; have m4 := HMB.out.cell 4; have m5 := HMB.out.cell 5; have m6 := HMB.out.cell 6; have m7 := HMB.out.cell 7; have m8 := HMB.out.cell 8; have m9 := HMB.out.cell 9; have m10 := HMB.out.cell 10; have m11 := HMB.out.cell 11; have m12 := HMB.out.cell 12; simp at m0 m1 m2 m3 m4 m5 m6 m7 m8 m9 m10 m11 m12
  have hk : (k < 1) ∨ (¬ k < 1 ∧ 4 < k) := by omega
  clear h
  rcases hk with hk | ⟨hk, hk2⟩
  all_goals
    go_enter Tryz.func49, Tryz.ntmps49
    go_wp2_with fail
    go_ret
    exact retb HV.out HO.out
theorem RightR_any (w : World) (m : Mg) (hF : m.Fine) : Calls Tryz.prog 49 #[.agg m.cells] w (RetB (rightM m) w) := by
  obtain ⟨k, s, r, c, x4, x5, x6, x7, x8, x9, x10, x11, x12⟩ := m
  rcases kinds k with rfl | rfl | rfl | rfl | h
  · exact RightR_1 w s r c x4 x5 x6 x7 x8 x9 x10 x11 x12 hF
  · exact RightR_2 w s r c x4 x5 x6 x7 x8 x9 x10 x11 x12 hF
  · exact RightR_3 w s r c x4 x5 x6 x7 x8 x9 x10 x11 x12 hF
  · exact RightR_4 w s r c x4 x5 x6 x7 x8 x9 x10 x11 x12 hF
  · exact RightR_none w _ h
set_option maxRecDepth 100000 in
set_option maxHeartbeats 12800000 in
theorem Body_no (w : World) (m : Mg) (hF : m.Fine) (hR : rightM m = false) : Calls Tryz.prog 54 #[.agg m.cells] w (MakePost (bodyM m) w) := by
  have HV := hide (body_none (.inl hR))
  have HTM := hide (fun W => Terms_any W m hF)
  unfold TermsPost at HTM
  simp only [hR, Bool.false_eq_true, if_false] at HTM
  obtain ⟨k, s, r, c, x4, x5, x6, x7, x8, x9, x10, x11, x12⟩ := m
  unfold Mg.cells at HTM ⊢
  simp only at HTM ⊢
  have HMB := hide (Blk.new w 25 #[.int .i64 k, .int .u32 (s : Nat), .int .u32 (r : Nat), .int .u64 (c : Nat), .string x4, .string x5, .string x6, .string x7, .string x8, .string x9, .string x10, .string x11, .string x12])
  have HO := hide ((Only.refl [] w).alloc (.cells #[.int .i64 k, .int .u32 (s : Nat), .int .u32 (r : Nat), .int .u64 (c : Nat), .string x4, .string x5, .string x6, .string x7, .string x8, .string x9, .string x10, .string x11, .string x12] 25))
  have m0 := HMB.out.cell 0; have m1 := HMB.out.cell 1; have m2 := HMB.out.cell 2; have m3 := HMB.out.cell 3; have m4 := HMB.out.cell 4; have m5 := HMB.out.cell 5; have m6 := HMB.out.cell 6; have m7 := HMB.out.cell 7; have m8 := HMB.out.cell 8; have m9 := HMB.out.cell 9; have m10 := HMB.out.cell 10; have m11 := HMB.out.cell 11; have m12 := HMB.out.cell 12; simp at m0 m1 m2 m3 m4 m5 m6 m7 m8 m9 m10 m11 m12
  clear hF hR
  go_enter Tryz.func54, Tryz.ntmps54
  go_wp2_with (go_at_call 56; refine (HTM.out _).mono ?_; rintro e v1 ⟨ho, rfl⟩; replace HO := hide (HO.out.trans ho); clear ho)
  go_ret
  exact makepost HV.out HO.out
set_option maxRecDepth 100000 in
set_option maxHeartbeats 12800000 in
theorem BodyR_no (w : World) (m : Mg) (hF : m.Fine) (hR : rightM m = false ∨ 2 < m.k) : Calls Tryz.prog 60 #[.agg m.cells] w (MakePost (bodyM m) w) := by
  have HV := hide (body_none hR)
  have HRR := hide (fun W => RightR_any W m hF)
  unfold RetB at HRR
  obtain ⟨k, s, r, c, x4, x5, x6, x7, x8, x9, x10, x11, x12⟩ := m
  unfold Mg.cells at HRR ⊢
  simp only at HRR hR ⊢
  have HMB := hide (Blk.new w 25 #[.int .i64 k, .int .u32 (s : Nat), .int .u32 (r : Nat), .int .u64 (c : Nat), .string x4, .string x5, .string x6, .string x7, .string x8, .string x9, .string x10, .string x11, .string x12])
  have HO := hide ((Only.refl [] w).alloc (.cells #[.int .i64 k, .int .u32 (s : Nat), .int .u32 (r : Nat), .int .u64 (c : Nat), .string x4, .string x5, .string x6, .string x7, .string x8, .string x9, .string x10, .string x11, .string x12] 25))
  have m0 := HMB.out.cell 0; have m1 := HMB.out.cell 1; have m2 := HMB.out.cell 2; have m3 := HMB.out.cell 3; have m4 := HMB.out.cell 4; have m5 := HMB.out.cell 5; have m6 := HMB.out.cell 6; have m7 := HMB.out.cell 7; have m8 := HMB.out.cell 8; have m9 := HMB.out.cell 9; have m10 := HMB.out.cell 10; have m11 := HMB.out.cell 11; have m12 := HMB.out.cell 12; simp at m0 m1 m2 m3 m4 m5 m6 m7 m8 m9 m10 m11 m12
  clear hF
  cases hb : rightM ⟨k, s, r, c, x4, x5, x6, x7, x8, x9, x10, x11, x12⟩ with
  | false =>
    rw [hb] at HRR
    clear hR hb
    go_enter Tryz.func60, Tryz.ntmps60
    go_wp2_with (go_at_call 49; refine (HRR.out _).mono ?_; rintro e v1 ⟨rfl, ho⟩; replace HMB := hide (HMB.out.only ho (by simp)); replace HO := hide (HO.out.trans ho); clear ho m0; have m0 := HMB.out.cell 0; simp at m0)
    go_ret
    exact makepost HV.out HO.out
  | true =>
    have hk : 2 < k := by rcases hR with h | h; (rw [hb] at h; cases h); exact h
    rw [hb] at HRR
    clear hR hb
    go_enter Tryz.func60, Tryz.ntmps60
    go_wp2_with (go_at_call 49; refine (HRR.out _).mono ?_; rintro e v1 ⟨rfl, ho⟩; replace HMB := hide (HMB.out.only ho (by simp)); replace HO := hide (HO.out.trans ho); clear ho m0; have m0 := HMB.out.cell 0; simp at m0)
    go_ret
    exact makepost HV.out HO.out
set_option maxRecDepth 100000 in
set_option maxHeartbeats 12800000 in
theorem Body_3 (w : World) (s r c : Nat) (x4 x5 x6 x7 x8 x9 x10 x11 x12 : ByteArray) (hF : (Mg.mk 3 s r c x4 x5 x6 x7 x8 x9 x10 x11 x12).Fine) (hR : rightM (Mg.mk 3 s r c x4 x5 x6 x7 x8 x9 x10 x11 x12) = true) : Calls Tryz.prog 54 #[.agg #[.int .i64 3, .int .u32 (s : Nat), .int .u32 (r : Nat), .int .u64 (c : Nat), .string x4, .string x5, .string x6, .string x7, .string x8, .string x9, .string x10, .string x11, .string x12]] w (MakePost (bodyM (Mg.mk 3 s r c x4 x5 x6 x7 x8 x9 x10 x11 x12)) w) := by
  have HV := hide (body_none (m := (Mg.mk 3 s r c x4 x5 x6 x7 x8 x9 x10 x11 x12)) (.inr (by show (2 : Int) < 3; omega)))
  have HTM := hide (fun W => Terms_3 W s r c x4 x5 x6 x7 x8 x9 x10 x11 x12 hF)
  unfold TermsPost at HTM
  simp only [hR, if_true] at HTM
  have HMB := hide (Blk.new w 25 #[.int .i64 3, .int .u32 (s : Nat), .int .u32 (r : Nat), .int .u64 (c : Nat), .string x4, .string x5, .string x6, .string x7, .string x8, .string x9, .string x10, .string x11, .string x12])
  have HO := hide ((Only.refl [] w).alloc (.cells #[.int .i64 3, .int .u32 (s : Nat), .int .u32 (r : Nat), .int .u64 (c : Nat), .string x4, .string x5, .string x6, .string x7, .string x8, .string x9, .string x10, .string x11, .string x12] 25))
  have m0 := HMB.out.cell 0; have m1 := HMB.out.cell 1; have m2 := HMB.out.cell 2; have m3 := HMB.out.cell 3; have m4 := HMB.out.cell 4; have m5 := HMB.out.cell 5; have m6 := HMB.out.cell 6; have m7 := HMB.out.cell 7; have m8 := HMB.out.cell 8; have m9 := HMB.out.cell 9; have m10 := HMB.out.cell 10; have m11 := HMB.out.cell 11; have m12 := HMB.out.cell 12; simp at m0 m1 m2 m3 m4 m5 m6 m7 m8 m9 m10 m11 m12
  clear hF hR
  go_enter Tryz.func54, Tryz.ntmps54
  go_wp2_with (go_at_call 56; refine (HTM.out _).mono ?_; rintro e v1 ⟨ho, v, rfl, hrd⟩; obtain ⟨A, cap, hv, hcc, hmm⟩ := hrd.form; replace hv : v = .slice A 2 cap := hv; subst hv; replace HMB := hide (HMB.out.only ho (by simp)); replace HO := hide (HO.out.trans ho); clear ho hrd hcc hmm m0; have m0 := HMB.out.cell 0; simp at m0)
  go_ret
  exact makepost HV.out HO.out
set_option maxRecDepth 100000 in
set_option maxHeartbeats 12800000 in
theorem Body_4 (w : World) (s r c : Nat) (x4 x5 x6 x7 x8 x9 x10 x11 x12 : ByteArray) (hF : (Mg.mk 4 s r c x4 x5 x6 x7 x8 x9 x10 x11 x12).Fine) (hR : rightM (Mg.mk 4 s r c x4 x5 x6 x7 x8 x9 x10 x11 x12) = true) : Calls Tryz.prog 54 #[.agg #[.int .i64 4, .int .u32 (s : Nat), .int .u32 (r : Nat), .int .u64 (c : Nat), .string x4, .string x5, .string x6, .string x7, .string x8, .string x9, .string x10, .string x11, .string x12]] w (MakePost (bodyM (Mg.mk 4 s r c x4 x5 x6 x7 x8 x9 x10 x11 x12)) w) := by
  have HV := hide (body_none (m := (Mg.mk 4 s r c x4 x5 x6 x7 x8 x9 x10 x11 x12)) (.inr (by show (2 : Int) < 4; omega)))
  have HTM := hide (fun W => Terms_4 W s r c x4 x5 x6 x7 x8 x9 x10 x11 x12 hF)
  unfold TermsPost at HTM
  simp only [hR, if_true] at HTM
  have HMB := hide (Blk.new w 25 #[.int .i64 4, .int .u32 (s : Nat), .int .u32 (r : Nat), .int .u64 (c : Nat), .string x4, .string x5, .string x6, .string x7, .string x8, .string x9, .string x10, .string x11, .string x12])
  have HO := hide ((Only.refl [] w).alloc (.cells #[.int .i64 4, .int .u32 (s : Nat), .int .u32 (r : Nat), .int .u64 (c : Nat), .string x4, .string x5, .string x6, .string x7, .string x8, .string x9, .string x10, .string x11, .string x12] 25))
  have m0 := HMB.out.cell 0; have m1 := HMB.out.cell 1; have m2 := HMB.out.cell 2; have m3 := HMB.out.cell 3; have m4 := HMB.out.cell 4; have m5 := HMB.out.cell 5; have m6 := HMB.out.cell 6; have m7 := HMB.out.cell 7; have m8 := HMB.out.cell 8; have m9 := HMB.out.cell 9; have m10 := HMB.out.cell 10; have m11 := HMB.out.cell 11; have m12 := HMB.out.cell 12; simp at m0 m1 m2 m3 m4 m5 m6 m7 m8 m9 m10 m11 m12
  clear hF hR
  go_enter Tryz.func54, Tryz.ntmps54
  go_wp2_with (go_at_call 56; refine (HTM.out _).mono ?_; rintro e v1 ⟨ho, v, rfl, hrd⟩; obtain ⟨A, cap, hv, hcc, hmm⟩ := hrd.form; replace hv : v = .slice A 1 cap := hv; subst hv; replace HMB := hide (HMB.out.only ho (by simp)); replace HO := hide (HO.out.trans ho); clear ho hrd hcc hmm m0; have m0 := HMB.out.cell 0; simp at m0)
  go_ret
  exact makepost HV.out HO.out
theorem Body_any (w : World) (m : Mg) (hF : m.Fine) (htab : Tab w) : Calls Tryz.prog 54 #[.agg m.cells] w (MakePost (bodyM m) w) := by
  cases hR : rightM m with
  | false => exact Body_no w m hF hR
  | true =>
    obtain ⟨k, s, r, c, x4, x5, x6, x7, x8, x9, x10, x11, x12⟩ := m
    rcases kinds k with rfl | rfl | rfl | rfl | h
    · exact Body_1 w s r c x4 x5 x6 x7 x8 x9 x10 x11 x12 hF hR htab
    · exact Body_2 w s r c x4 x5 x6 x7 x8 x9 x10 x11 x12 hF hR htab
    · exact Body_3 w s r c x4 x5 x6 x7 x8 x9 x10 x11 x12 hF hR
    · exact Body_4 w s r c x4 x5 x6 x7 x8 x9 x10 x11 x12 hF hR
    · rw [right_none h] at hR; cases hR
theorem BodyR_any (w : World) (m : Mg) (hF : m.Fine) : Calls Tryz.prog 60 #[.agg m.cells] w (MakePost (bodyM m) w) := by
  cases hR : rightM m with
  | false => exact BodyR_no w m hF (.inl hR)
  | true =>
    obtain ⟨k, s, r, c, x4, x5, x6, x7, x8, x9, x10, x11, x12⟩ := m
    rcases kinds k with rfl | rfl | rfl | rfl | h
    · exact BodyR_1 w s r c x4 x5 x6 x7 x8 x9 x10 x11 x12 hF hR
    · exact BodyR_2 w s r c x4 x5 x6 x7 x8 x9 x10 x11 x12 hF hR
    · exact BodyR_no w _ hF (.inr (by show (2 : Int) < 3; omega))
    · exact BodyR_no w _ hF (.inr (by show (2 : Int) < 4; omega))
    · rw [right_none h] at hR; cases hR
theorem body_size (m : Mg) : (bodyM m).size ≤ maxLen := by
  unfold bodyM
  split
  · exact make_size' _ _ _ _ (by omega)
  · exact Nat.zero_le _
set_option maxRecDepth 100000 in
set_option maxHeartbeats 12800000 in
theorem WSigned_any (w : World) (m : Mg) (hF : m.Fine) (htab : Tab w) : Calls Tryz.prog 55 #[.agg m.cells] w (MakePost (signedM m) w) := by
  have HBD := hide (fun W ht => Body_any W m hF ht)
  have hbs := body_size m
  have hx11 := hF.x11
  have HE := hide (fun (h : bodyM m = ByteArray.empty) => show signedM m = ByteArray.empty by unfold signedM; rw [if_pos h])
  have HS := hide (fun (h : ¬ bodyM m = ByteArray.empty) => show signedM m = makeV 11 0 [] [bodyM m, m.x11] by unfold signedM; rw [if_neg h])
  unfold MakePost at HBD
  generalize bodyM m = b at *
  generalize signedM m = sg at *
  obtain ⟨k, s, r, c, x4, x5, x6, x7, x8, x9, x10, x11, x12⟩ := m
  unfold Mg.cells at HBD ⊢
  simp only at HBD hx11 HS ⊢
  have HMB := hide (Blk.new w 25 #[.int .i64 k, .int .u32 (s : Nat), .int .u32 (r : Nat), .int .u64 (c : Nat), .string x4, .string x5, .string x6, .string x7, .string x8, .string x9, .string x10, .string x11, .string x12])
  have HO := hide ((Only.refl [] w).alloc (.cells #[.int .i64 k, .int .u32 (s : Nat), .int .u32 (r : Nat), .int .u64 (c : Nat), .string x4, .string x5, .string x6, .string x7, .string x8, .string x9, .string x10, .string x11, .string x12] 25))
  have HT := hide (htab.only HO.out (by simp))
  clear htab
  have m0 := HMB.out.cell 0; have m1 := HMB.out.cell 1; have m2 := HMB.out.cell 2; have m3 := HMB.out.cell 3; have m4 := HMB.out.cell 4; have m5 := HMB.out.cell 5; have m6 := HMB.out.cell 6; have m7 := HMB.out.cell 7; have m8 := HMB.out.cell 8; have m9 := HMB.out.cell 9; have m10 := HMB.out.cell 10; have m11 := HMB.out.cell 11; have m12 := HMB.out.cell 12; simp at m0 m1 m2 m3 m4 m5 m6 m7 m8 m9 m10 m11 m12
  clear hF
  by_cases hb : b = ByteArray.empty
  · have HV := hide (HE.out hb)
    have he : b.toList.isEmpty = true := by rw [hb]; kernel_rfl
    clear hb HE HS
    go_enter Tryz.func55, Tryz.ntmps55
    go_wp2_with (go_at_call 54; refine (HBD.out _ HT.out).mono ?_; rintro e v1 ⟨rfl, ho⟩; replace HO := hide (HO.out.trans ho); clear ho)
    go_ret
    exact makepost (HV.out.trans (by first | rfl | kernel_rfl)) HO.out
  · have HV := hide (HS.out hb)
    have he : b.toList.isEmpty = false := by
      cases h : b.toList.isEmpty with
      | false => rfl
      | true => exact absurd (toList_inj ((List.isEmpty_iff.1 h).trans (by kernel_rfl))) hb
    clear hb HE HS
    go_enter Tryz.func55, Tryz.ntmps55
    go_wp2_with (first
      | (go_at_call 54; refine (HBD.out _ HT.out).mono ?_; rintro e v1 ⟨rfl, ho⟩; replace HMB := hide (HMB.out.only ho (by simp)); replace HO := hide (HO.out.trans ho); replace HT := hide (HT.out.only ho (by simp)); clear ho m11; have m11 := HMB.out.cell 11; simp at m11)
      | (go_at_call 66; refine (make_new2 v1 HT.out _ rfl 11 (by decide) 0 (by omega) b x11 hbs hx11).mono ?_; rintro e v2 ⟨rfl, ho⟩; replace HO := hide (HO.out.trans ho); clear ho))
    go_ret
    exact makepost HV.out HO.out
set_option maxRecDepth 100000 in
set_option maxHeartbeats 12800000 in
theorem WSignedR_any (w : World) (m : Mg) (hF : m.Fine) : Calls Tryz.prog 61 #[.agg m.cells] w (MakePost (signedM m) w) := by
  have HBD := hide (fun W => BodyR_any W m hF)
  have hbs := body_size m
  have hx11 := hF.x11
  have HE := hide (fun (h : bodyM m = ByteArray.empty) => show signedM m = ByteArray.empty by unfold signedM; rw [if_pos h])
  have HS := hide (fun (h : ¬ bodyM m = ByteArray.empty) => show signedM m = makeV 11 0 [] [bodyM m, m.x11] by unfold signedM; rw [if_neg h])
  unfold MakePost at HBD
  generalize bodyM m = b at *
  generalize signedM m = sg at *
  obtain ⟨k, s, r, c, x4, x5, x6, x7, x8, x9, x10, x11, x12⟩ := m
  unfold Mg.cells at HBD ⊢
  simp only at HBD hx11 HS ⊢
  have HMB := hide (Blk.new w 25 #[.int .i64 k, .int .u32 (s : Nat), .int .u32 (r : Nat), .int .u64 (c : Nat), .string x4, .string x5, .string x6, .string x7, .string x8, .string x9, .string x10, .string x11, .string x12])
  have HO := hide ((Only.refl [] w).alloc (.cells #[.int .i64 k, .int .u32 (s : Nat), .int .u32 (r : Nat), .int .u64 (c : Nat), .string x4, .string x5, .string x6, .string x7, .string x8, .string x9, .string x10, .string x11, .string x12] 25))
  have m0 := HMB.out.cell 0; have m1 := HMB.out.cell 1; have m2 := HMB.out.cell 2; have m3 := HMB.out.cell 3; have m4 := HMB.out.cell 4; have m5 := HMB.out.cell 5; have m6 := HMB.out.cell 6; have m7 := HMB.out.cell 7; have m8 := HMB.out.cell 8; have m9 := HMB.out.cell 9; have m10 := HMB.out.cell 10; have m11 := HMB.out.cell 11; have m12 := HMB.out.cell 12; simp at m0 m1 m2 m3 m4 m5 m6 m7 m8 m9 m10 m11 m12
  clear hF
  by_cases hb : b = ByteArray.empty
  · have HV := hide (HE.out hb)
    have he : b.toList.isEmpty = true := by rw [hb]; kernel_rfl
    clear hb HE HS
    go_enter Tryz.func61, Tryz.ntmps61
    go_wp2_with (go_at_call 60; refine (HBD.out _).mono ?_; rintro e v1 ⟨rfl, ho⟩; replace HO := hide (HO.out.trans ho); clear ho)
    go_ret
    exact makepost (HV.out.trans (by first | rfl | kernel_rfl)) HO.out
  · have HV := hide (HS.out hb)
    have he : b.toList.isEmpty = false := by
      cases h : b.toList.isEmpty with
      | false => rfl
      | true => exact absurd (toList_inj ((List.isEmpty_iff.1 h).trans (by kernel_rfl))) hb
    clear hb HE HS
    go_enter Tryz.func61, Tryz.ntmps61
    go_wp2_with (first
      | (go_at_call 60; refine (HBD.out _).mono ?_; rintro e v1 ⟨rfl, ho⟩; replace HMB := hide (HMB.out.only ho (by simp)); replace HO := hide (HO.out.trans ho); clear ho m11; have m11 := HMB.out.cell 11; simp at m11)
      | (go_at_call 109; refine (listR_new2 v1 _ rfl b x11 hbs hx11).mono ?_; rintro e v2 ⟨rfl, ho⟩; replace HO := hide (HO.out.trans ho); clear ho))
    go_ret
    exact makepost HV.out HO.out
end
section
open Go.RowKit Go.Deep

noncomputable def doorT (p : ByteArray) : ByteArray := makeV 7 0 [] [⟨#[120, 54, 100, 54, 49, 54, 51, 51, 49]⟩, p]
noncomputable def jarT (p : ByteArray) : ByteArray := makeV 7 0 [] [⟨#[120, 54, 51, 54, 102, 54, 102, 54, 98, 54, 57, 54, 53]⟩, p]
noncomputable def sumT (k u : ByteArray) : ByteArray := makeV 9 0 [] [k, u]
def startsM (m : Mg) : Bool := decide (m.k ≤ 2) && rightM m
theorem door_size (p : ByteArray) : (doorT p).size ≤ maxLen := make_size' _ _ _ _ (by omega)
theorem jar_size (p : ByteArray) : (jarT p).size ≤ maxLen := make_size' _ _ _ _ (by omega)
theorem sum_size (k u : ByteArray) : (sumT k u).size ≤ maxLen := make_size' _ _ _ _ (by omega)
set_option maxRecDepth 100000 in
set_option maxHeartbeats 3200000 in
theorem HashR_any (w : World) (v : Value) (l : List ByteArray) (hl : l.length ≤ 1000) (hs : ∀ p ∈ l, p.size ≤ maxLen) (hv : Rd w [] v (strs l)) : Calls Tryz.prog 59 #[v] w (MakePost (makeV 7 0 [] l) w) := by
  have HM := hide (MakeR_any 7 0 (by omega) (.slice none 0 0) v [] (by simp) l hl hs w (Rd.nil _ _) hv)
  unfold MakePost at HM
  obtain ⟨A, cap, rfl, _, _⟩ := hv.form
  clear hv
  go_enter Tryz.func59, Tryz.ntmps59
  go_wp2_with (go_at_call 101; refine HM.out.mono ?_; rintro e w2 ⟨rfl, ho⟩; have HO := hide ho; clear ho)
  go_ret
  exact makepost rfl HO.out
theorem hashR_new2 (w : World) (G : Nat) (hG : G = w.heap.size) (x y : ByteArray) (hx : x.size ≤ maxLen) (hy : y.size ≤ maxLen) :
    Calls Tryz.prog 59 #[.slice (some ⟨G, 0, none⟩) 2 2] (w.alloc (.cells #[.string x, .string y] 9)) (MakePost (makeV 7 0 [] [x, y]) w) := by
  subst hG
  exact (HashR_any (w.alloc (.cells #[.string x, .string y] 9)) _ [x, y] (by simp) (fun p hp => by simp at hp; rcases hp with rfl | rfl <;> assumption) (rd_new w 9 [] (strs [x, y]) (by simp) (by unfold maxLen; simp [strs]))).mono fun e w' h => ⟨h.1, ((Only.refl [] w).alloc _).trans h.2⟩
set_option maxRecDepth 100000 in
set_option maxHeartbeats 12800000 in
theorem sum_any (w : World) (k u : ByteArray) (hk : k.size ≤ maxLen) (hu : u.size ≤ maxLen) (htab : Tab w) : Calls Tryz.prog 52 #[.string k, .string u] w (MakePost (sumT k u) w) := by
  have HT := hide htab
  clear htab
  go_enter Tryz.func52, Tryz.ntmps52
  go_wp2_with (go_at_call 66; refine (make_new2 _ HT.out _ rfl 9 (by decide) 0 (by omega) k u hk hu).mono ?_; rintro e w2 ⟨rfl, ho⟩; have HO := hide ho; clear ho)
  go_ret
  exact makepost rfl HO.out
set_option maxRecDepth 100000 in
set_option maxHeartbeats 12800000 in
theorem door_any (w : World) (p : ByteArray) (hp : p.size ≤ maxLen) (htab : Tab w) : Calls Tryz.prog 53 #[.string p] w (MakePost (doorT p) w) := by
  have HT := hide htab
  clear htab
  go_enter Tryz.func53, Tryz.ntmps53
  go_wp2_with (go_at_call 66; refine (make_new2 _ HT.out _ rfl 7 (by decide) 0 (by omega) ⟨#[120, 54, 100, 54, 49, 54, 51, 51, 49]⟩ p (by unfold maxLen; show 9 ≤ _; omega) hp).mono ?_; rintro e w2 ⟨rfl, ho⟩; have HO := hide ho; clear ho)
  go_ret
  exact makepost rfl HO.out
set_option maxRecDepth 100000 in
set_option maxHeartbeats 12800000 in
theorem jar_any (w : World) (p : ByteArray) (hp : p.size ≤ maxLen) (htab : Tab w) : Calls Tryz.prog 64 #[.string p] w (MakePost (jarT p) w) := by
  have HT := hide htab
  clear htab
  go_enter Tryz.func64, Tryz.ntmps64
  go_wp2_with (go_at_call 66; refine (make_new2 _ HT.out _ rfl 7 (by decide) 0 (by omega) ⟨#[120, 54, 51, 54, 102, 54, 102, 54, 98, 54, 57, 54, 53]⟩ p (by unfold maxLen; show 13 ≤ _; omega) hp).mono ?_; rintro e w2 ⟨rfl, ho⟩; have HO := hide ho; clear ho)
  go_ret
  exact makepost rfl HO.out
set_option maxRecDepth 100000 in
set_option maxHeartbeats 12800000 in
theorem starts_any (w : World) (m : Mg) (hF : m.Fine) (hk0 : -9223372036854775808 ≤ m.k) : Calls Tryz.prog 50 #[.agg m.cells] w (RetB (startsM m) w) := by
  have HTM := hide (fun W => Terms_any W m hF)
  unfold TermsPost at HTM
  have HVN := hide (fun (h : ¬ (m.k = 1 ∨ m.k = 2)) => show startsM m = false by
    unfold startsM
    by_cases h1 : 1 ≤ m.k ∧ m.k ≤ 4
    · rw [decide_eq_false (by omega)]; rfl
    · rw [right_none h1, Bool.and_false])
  have HVY := hide (fun (h : m.k = 1 ∨ m.k = 2) => show startsM m = rightM m by unfold startsM; rw [decide_eq_true (by omega)]; rfl)
  have HTL := hide (fun (h : m.k = 1 ∨ m.k = 2) => show 0 < (textsM m).length by
    unfold textsM
    rcases h with h | h
    · rw [if_pos h]; simp
    · rw [if_neg (by omega), if_pos h]; simp)
  have hkk := hk0
  generalize rightM m = rr at *
  generalize startsM m = ss at *
  generalize textsM m = tl at *
  obtain ⟨k, s, r, c, x4, x5, x6, x7, x8, x9, x10, x11, x12⟩ := m
  unfold Mg.cells at HTM ⊢
  simp only at HTM HVN HVY HTL ⊢
  have HMB := hide (Blk.new w 25 #[.int .i64 k, .int .u32 (s : Nat), .int .u32 (r : Nat), .int .u64 (c : Nat), .string x4, .string x5, .string x6, .string x7, .string x8, .string x9, .string x10, .string x11, .string x12])
  have HO := hide ((Only.refl [] w).alloc (.cells #[.int .i64 k, .int .u32 (s : Nat), .int .u32 (r : Nat), .int .u64 (c : Nat), .string x4, .string x5, .string x6, .string x7, .string x8, .string x9, .string x10, .string x11, .string x12] 25))
  have m0 := HMB.out.cell 0; have m1 := HMB.out.cell 1; have m2 := HMB.out.cell 2; have m3 := HMB.out.cell 3; have m4 := HMB.out.cell 4; have m5 := HMB.out.cell 5; have m6 := HMB.out.cell 6; have m7 := HMB.out.cell 7; have m8 := HMB.out.cell 8; have m9 := HMB.out.cell 9; have m10 := HMB.out.cell 10; have m11 := HMB.out.cell 11; have m12 := HMB.out.cell 12; simp at m0 m1 m2 m3 m4 m5 m6 m7 m8 m9 m10 m11 m12
  clear hF hk0 hkk
  by_cases h1 : k = 1
  · have e1 : (k == 1) = true := by rw [beq_iff_eq]; exact h1
    have HV := hide (HVY.out (.inl h1))
    have htl := HTL.out (.inl h1)
    clear h1
    cases rr with
    | false =>
      simp only [Bool.false_eq_true, if_false] at HTM
      go_enter Tryz.func50, Tryz.ntmps50
      go_wp2_with (go_at_call 56; refine (HTM.out _).mono ?_; rintro e v1 ⟨ho, rfl⟩; replace HO := hide (HO.out.trans ho); clear ho)
      go_ret
      exact retb HV.out HO.out
    | true =>
      simp only [if_true] at HTM
      obtain ⟨n, hn⟩ : ∃ n, n = tl.length := ⟨_, rfl⟩
      have hn0 : (0 : Int) < n := by omega
      have hn1 : 0 < n := by omega
      have HN := hide hn
      clear htl hn
      go_enter Tryz.func50, Tryz.ntmps50
      go_wp2_with (go_at_call 56; refine (HTM.out _).mono ?_; rintro e v1 ⟨ho, v, rfl, hrd⟩; obtain ⟨A, cap, hv, hcc, hmm⟩ := hrd.form; replace hv : v = .slice A n cap := (by rw [HN.out, hv]; simp [strc]); subst hv; replace HO := hide (HO.out.trans ho); clear ho hrd hcc hmm)
      go_ret
      exact retb HV.out HO.out
  · by_cases h2 : k = 2
    · have e1 : (k == 1) = false := by rw [beq_eq_false_iff_ne]; exact h1
      have e2 : (k == 2) = true := by rw [beq_iff_eq]; exact h2
      have HV := hide (HVY.out (.inr h2))
      have htl := HTL.out (.inr h2)
      clear h1 h2
      cases rr with
      | false =>
        simp only [Bool.false_eq_true, if_false] at HTM
        go_enter Tryz.func50, Tryz.ntmps50
        go_wp2_with (go_at_call 56; refine (HTM.out _).mono ?_; rintro e v1 ⟨ho, rfl⟩; replace HO := hide (HO.out.trans ho); clear ho)
        go_ret
        exact retb HV.out HO.out
      | true =>
        simp only [if_true] at HTM
        obtain ⟨n, hn⟩ : ∃ n, n = tl.length := ⟨_, rfl⟩
        have hn0 : (0 : Int) < n := by omega
        have hn1 : 0 < n := by omega
        have HN := hide hn
        clear htl hn
        go_enter Tryz.func50, Tryz.ntmps50
        go_wp2_with (go_at_call 56; refine (HTM.out _).mono ?_; rintro e v1 ⟨ho, v, rfl, hrd⟩; obtain ⟨A, cap, hv, hcc, hmm⟩ := hrd.form; replace hv : v = .slice A n cap := (by rw [HN.out, hv]; simp [strc]); subst hv; replace HO := hide (HO.out.trans ho); clear ho hrd hcc hmm)
        go_ret
        exact retb HV.out HO.out
    · have e1 : (k == 1) = false := by rw [beq_eq_false_iff_ne]; exact h1
      have e2 : (k == 2) = false := by rw [beq_eq_false_iff_ne]; exact h2
      have HV := hide (HVN.out (by omega))
      clear h1 h2
      go_enter Tryz.func50, Tryz.ntmps50
      go_wp2_with fail
      go_ret
      exact retb HV.out HO.out
end
end Go.Proofs.YtfipdjlalfpbnaaGreatDoor

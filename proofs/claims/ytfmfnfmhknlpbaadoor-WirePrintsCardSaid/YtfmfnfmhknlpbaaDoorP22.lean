/-
  Walks and plain words for WirePrints (texts Ws, Wqp1, Wqp2, Wqp3). No condition beyond those that each theorem states.
-/
import Derived.Test.YtfmfnfmhknlpbaaDoorP21
namespace Go.Proofs.YtfmfnfmhknlpbaaDoor
section
open Go.RowKit Go.Deep

theorem listR_new2 (w : World) (G : Nat) (hG : G = w.heap.size) (x y : ByteArray) (hx : x.size ≤ maxLen) (hy : y.size ≤ maxLen) :
    Calls Tryd.prog 77 #[.slice (some ⟨G, 0, none⟩) 2 2] (w.alloc (.cells #[.string x, .string y] 9)) (MakePost (makeV 11 0 [] [x, y]) w) := by
  subst hG
  exact (ListR_any (w.alloc (.cells #[.string x, .string y] 9)) _ [x, y] (by simp) (fun p hp => by simp at hp; rcases hp with rfl | rfl <;> assumption) (rd_new w 9 [] (strs [x, y]) (by simp) (by unfold maxLen; simp [strs]))).mono fun e w' h => ⟨h.1, ((Only.refl [] w).alloc _).trans h.2⟩
theorem body_none {m : Mg} (h : rightM m = false ∨ 2 < m.k) : bodyM m = ByteArray.empty := by
  unfold bodyM
  rw [if_neg]
  rintro ⟨h1, h2⟩
  rcases h with h | h
  · rw [h] at h1; cases h1
  · omega
set_option maxRecDepth 100000 in
set_option maxHeartbeats 12800000 in
theorem RightR_none (w : World) (m : Mg) (h : ¬ (1 ≤ m.k ∧ m.k ≤ 4)) : Calls Tryd.prog 36 #[.agg m.cells] w (RetB (rightM m) w) := by
  have HV := hide (right_none h)
  obtain ⟨k, s, r, c, x4, x5, x6, x7, x8, x9, x10, x11, x12⟩ := m
  unfold Mg.cells
  simp only at h ⊢
  have HMB := hide (Blk.new w 53 #[.int .i64 k, .int .u32 (s : Nat), .int .u32 (r : Nat), .int .u64 (c : Nat), .string x4, .string x5, .string x6, .string x7, .string x8, .string x9, .string x10, .string x11, .string x12])
  have HO := hide ((Only.refl [] w).alloc (.cells #[.int .i64 k, .int .u32 (s : Nat), .int .u32 (r : Nat), .int .u64 (c : Nat), .string x4, .string x5, .string x6, .string x7, .string x8, .string x9, .string x10, .string x11, .string x12] 53))
  have m0 := HMB.out.cell 0; have m1 := HMB.out.cell 1; have m2 := HMB.out.cell 2; have m3 := HMB.out.cell 3; have m4 := HMB.out.cell 4; have m5 := HMB.out.cell 5; have m6 := HMB.out.cell 6; have m7 := HMB.out.cell 7; have m8 := HMB.out.cell 8; have m9 := HMB.out.cell 9; have m10 := HMB.out.cell 10; have m11 := HMB.out.cell 11; have m12 := HMB.out.cell 12; simp at m0 m1 m2 m3 m4 m5 m6 m7 m8 m9 m10 m11 m12
  have hk : (k < 1) ∨ (¬ k < 1 ∧ 4 < k) := by omega
  clear h
  rcases hk with hk | ⟨hk, hk2⟩
  all_goals
    go_enter Tryd.func36, Tryd.ntmps36
    go_wp2_with fail
    go_ret
    exact retb HV.out HO.out
theorem RightR_any (w : World) (m : Mg) (hF : m.Fine) : Calls Tryd.prog 36 #[.agg m.cells] w (RetB (rightM m) w) := by
  obtain ⟨k, s, r, c, x4, x5, x6, x7, x8, x9, x10, x11, x12⟩ := m
  rcases kinds k with rfl | rfl | rfl | rfl | h
  · exact RightR_1 w s r c x4 x5 x6 x7 x8 x9 x10 x11 x12 hF
  · exact RightR_2 w s r c x4 x5 x6 x7 x8 x9 x10 x11 x12 hF
  · exact RightR_3 w s r c x4 x5 x6 x7 x8 x9 x10 x11 x12 hF
  · exact RightR_4 w s r c x4 x5 x6 x7 x8 x9 x10 x11 x12 hF
  · exact RightR_none w _ h
set_option maxRecDepth 100000 in
set_option maxHeartbeats 12800000 in
theorem Body_no (w : World) (m : Mg) (hF : m.Fine) (hR : rightM m = false) : Calls Tryd.prog 38 #[.agg m.cells] w (MakePost (bodyM m) w) := by
  have HV := hide (body_none (.inl hR))
  have HTM := hide (fun W => Terms_any W m hF)
  unfold TermsPost at HTM
  simp only [hR, Bool.false_eq_true, if_false] at HTM
  obtain ⟨k, s, r, c, x4, x5, x6, x7, x8, x9, x10, x11, x12⟩ := m
  unfold Mg.cells at HTM ⊢
  simp only at HTM ⊢
  have HMB := hide (Blk.new w 53 #[.int .i64 k, .int .u32 (s : Nat), .int .u32 (r : Nat), .int .u64 (c : Nat), .string x4, .string x5, .string x6, .string x7, .string x8, .string x9, .string x10, .string x11, .string x12])
  have HO := hide ((Only.refl [] w).alloc (.cells #[.int .i64 k, .int .u32 (s : Nat), .int .u32 (r : Nat), .int .u64 (c : Nat), .string x4, .string x5, .string x6, .string x7, .string x8, .string x9, .string x10, .string x11, .string x12] 53))
  have m0 := HMB.out.cell 0; have m1 := HMB.out.cell 1; have m2 := HMB.out.cell 2; have m3 := HMB.out.cell 3; have m4 := HMB.out.cell 4; have m5 := HMB.out.cell 5; have m6 := HMB.out.cell 6; have m7 := HMB.out.cell 7; have m8 := HMB.out.cell 8; have m9 := HMB.out.cell 9; have m10 := HMB.out.cell 10; have m11 := HMB.out.cell 11; have m12 := HMB.out.cell 12; simp at m0 m1 m2 m3 m4 m5 m6 m7 m8 m9 m10 m11 m12
  clear hF hR
  go_enter Tryd.func38, Tryd.ntmps38
  go_wp2_with (go_at_call 37; refine (HTM.out _).mono ?_; rintro e v1 ⟨ho, rfl⟩; replace HO := hide (HO.out.trans ho); clear ho)
  go_ret
  exact makepost HV.out HO.out
set_option maxRecDepth 100000 in
set_option maxHeartbeats 12800000 in
theorem BodyR_no (w : World) (m : Mg) (hF : m.Fine) (hR : rightM m = false ∨ 2 < m.k) : Calls Tryd.prog 43 #[.agg m.cells] w (MakePost (bodyM m) w) := by
  have HV := hide (body_none hR)
  have HRR := hide (fun W => RightR_any W m hF)
  unfold RetB at HRR
  obtain ⟨k, s, r, c, x4, x5, x6, x7, x8, x9, x10, x11, x12⟩ := m
  unfold Mg.cells at HRR ⊢
  simp only at HRR hR ⊢
  have HMB := hide (Blk.new w 53 #[.int .i64 k, .int .u32 (s : Nat), .int .u32 (r : Nat), .int .u64 (c : Nat), .string x4, .string x5, .string x6, .string x7, .string x8, .string x9, .string x10, .string x11, .string x12])
  have HO := hide ((Only.refl [] w).alloc (.cells #[.int .i64 k, .int .u32 (s : Nat), .int .u32 (r : Nat), .int .u64 (c : Nat), .string x4, .string x5, .string x6, .string x7, .string x8, .string x9, .string x10, .string x11, .string x12] 53))
  have m0 := HMB.out.cell 0; have m1 := HMB.out.cell 1; have m2 := HMB.out.cell 2; have m3 := HMB.out.cell 3; have m4 := HMB.out.cell 4; have m5 := HMB.out.cell 5; have m6 := HMB.out.cell 6; have m7 := HMB.out.cell 7; have m8 := HMB.out.cell 8; have m9 := HMB.out.cell 9; have m10 := HMB.out.cell 10; have m11 := HMB.out.cell 11; have m12 := HMB.out.cell 12; simp at m0 m1 m2 m3 m4 m5 m6 m7 m8 m9 m10 m11 m12
  clear hF
  cases hb : rightM ⟨k, s, r, c, x4, x5, x6, x7, x8, x9, x10, x11, x12⟩ with
  | false =>
    rw [hb] at HRR
    clear hR hb
    go_enter Tryd.func43, Tryd.ntmps43
    go_wp2_with (go_at_call 36; refine (HRR.out _).mono ?_; rintro e v1 ⟨rfl, ho⟩; replace HMB := hide (HMB.out.only ho (by simp)); replace HO := hide (HO.out.trans ho); clear ho m0; have m0 := HMB.out.cell 0; simp at m0)
    go_ret
    exact makepost HV.out HO.out
  | true =>
    have hk : 2 < k := by rcases hR with h | h; (rw [hb] at h; cases h); exact h
    rw [hb] at HRR
    clear hR hb
    go_enter Tryd.func43, Tryd.ntmps43
    go_wp2_with (go_at_call 36; refine (HRR.out _).mono ?_; rintro e v1 ⟨rfl, ho⟩; replace HMB := hide (HMB.out.only ho (by simp)); replace HO := hide (HO.out.trans ho); clear ho m0; have m0 := HMB.out.cell 0; simp at m0)
    go_ret
    exact makepost HV.out HO.out
set_option maxRecDepth 100000 in
set_option maxHeartbeats 12800000 in
theorem Body_3 (w : World) (s r c : Nat) (x4 x5 x6 x7 x8 x9 x10 x11 x12 : ByteArray) (hF : (Mg.mk 3 s r c x4 x5 x6 x7 x8 x9 x10 x11 x12).Fine) (hR : rightM (Mg.mk 3 s r c x4 x5 x6 x7 x8 x9 x10 x11 x12) = true) : Calls Tryd.prog 38 #[.agg #[.int .i64 3, .int .u32 (s : Nat), .int .u32 (r : Nat), .int .u64 (c : Nat), .string x4, .string x5, .string x6, .string x7, .string x8, .string x9, .string x10, .string x11, .string x12]] w (MakePost (bodyM (Mg.mk 3 s r c x4 x5 x6 x7 x8 x9 x10 x11 x12)) w) := by
  have HV := hide (body_none (m := (Mg.mk 3 s r c x4 x5 x6 x7 x8 x9 x10 x11 x12)) (.inr (by show (2 : Int) < 3; omega)))
  have HTM := hide (fun W => Terms_3 W s r c x4 x5 x6 x7 x8 x9 x10 x11 x12 hF)
  unfold TermsPost at HTM
  simp only [hR, if_true] at HTM
  have HMB := hide (Blk.new w 53 #[.int .i64 3, .int .u32 (s : Nat), .int .u32 (r : Nat), .int .u64 (c : Nat), .string x4, .string x5, .string x6, .string x7, .string x8, .string x9, .string x10, .string x11, .string x12])
  have HO := hide ((Only.refl [] w).alloc (.cells #[.int .i64 3, .int .u32 (s : Nat), .int .u32 (r : Nat), .int .u64 (c : Nat), .string x4, .string x5, .string x6, .string x7, .string x8, .string x9, .string x10, .string x11, .string x12] 53))
  have m0 := HMB.out.cell 0; have m1 := HMB.out.cell 1; have m2 := HMB.out.cell 2; have m3 := HMB.out.cell 3; have m4 := HMB.out.cell 4; have m5 := HMB.out.cell 5; have m6 := HMB.out.cell 6; have m7 := HMB.out.cell 7; have m8 := HMB.out.cell 8; have m9 := HMB.out.cell 9; have m10 := HMB.out.cell 10; have m11 := HMB.out.cell 11; have m12 := HMB.out.cell 12; simp at m0 m1 m2 m3 m4 m5 m6 m7 m8 m9 m10 m11 m12
  clear hF hR
  go_enter Tryd.func38, Tryd.ntmps38
  go_wp2_with (go_at_call 37; refine (HTM.out _).mono ?_; rintro e v1 ⟨ho, v, rfl, hrd⟩; obtain ⟨A, cap, hv, hcc, hmm⟩ := hrd.form; replace hv : v = .slice A 2 cap := hv; subst hv; replace HMB := hide (HMB.out.only ho (by simp)); replace HO := hide (HO.out.trans ho); clear ho hrd hcc hmm m0; have m0 := HMB.out.cell 0; simp at m0)
  go_ret
  exact makepost HV.out HO.out
set_option maxRecDepth 100000 in
set_option maxHeartbeats 12800000 in
theorem Body_4 (w : World) (s r c : Nat) (x4 x5 x6 x7 x8 x9 x10 x11 x12 : ByteArray) (hF : (Mg.mk 4 s r c x4 x5 x6 x7 x8 x9 x10 x11 x12).Fine) (hR : rightM (Mg.mk 4 s r c x4 x5 x6 x7 x8 x9 x10 x11 x12) = true) : Calls Tryd.prog 38 #[.agg #[.int .i64 4, .int .u32 (s : Nat), .int .u32 (r : Nat), .int .u64 (c : Nat), .string x4, .string x5, .string x6, .string x7, .string x8, .string x9, .string x10, .string x11, .string x12]] w (MakePost (bodyM (Mg.mk 4 s r c x4 x5 x6 x7 x8 x9 x10 x11 x12)) w) := by
  have HV := hide (body_none (m := (Mg.mk 4 s r c x4 x5 x6 x7 x8 x9 x10 x11 x12)) (.inr (by show (2 : Int) < 4; omega)))
  have HTM := hide (fun W => Terms_4 W s r c x4 x5 x6 x7 x8 x9 x10 x11 x12 hF)
  unfold TermsPost at HTM
  simp only [hR, if_true] at HTM
  have HMB := hide (Blk.new w 53 #[.int .i64 4, .int .u32 (s : Nat), .int .u32 (r : Nat), .int .u64 (c : Nat), .string x4, .string x5, .string x6, .string x7, .string x8, .string x9, .string x10, .string x11, .string x12])
  have HO := hide ((Only.refl [] w).alloc (.cells #[.int .i64 4, .int .u32 (s : Nat), .int .u32 (r : Nat), .int .u64 (c : Nat), .string x4, .string x5, .string x6, .string x7, .string x8, .string x9, .string x10, .string x11, .string x12] 53))
  have m0 := HMB.out.cell 0; have m1 := HMB.out.cell 1; have m2 := HMB.out.cell 2; have m3 := HMB.out.cell 3; have m4 := HMB.out.cell 4; have m5 := HMB.out.cell 5; have m6 := HMB.out.cell 6; have m7 := HMB.out.cell 7; have m8 := HMB.out.cell 8; have m9 := HMB.out.cell 9; have m10 := HMB.out.cell 10; have m11 := HMB.out.cell 11; have m12 := HMB.out.cell 12; simp at m0 m1 m2 m3 m4 m5 m6 m7 m8 m9 m10 m11 m12
  clear hF hR
  go_enter Tryd.func38, Tryd.ntmps38
  go_wp2_with (go_at_call 37; refine (HTM.out _).mono ?_; rintro e v1 ⟨ho, v, rfl, hrd⟩; obtain ⟨A, cap, hv, hcc, hmm⟩ := hrd.form; replace hv : v = .slice A 1 cap := hv; subst hv; replace HMB := hide (HMB.out.only ho (by simp)); replace HO := hide (HO.out.trans ho); clear ho hrd hcc hmm m0; have m0 := HMB.out.cell 0; simp at m0)
  go_ret
  exact makepost HV.out HO.out
theorem Body_any (w : World) (m : Mg) (hF : m.Fine) (htab : Tab w) : Calls Tryd.prog 38 #[.agg m.cells] w (MakePost (bodyM m) w) := by
  cases hR : rightM m with
  | false => exact Body_no w m hF hR
  | true =>
    obtain ⟨k, s, r, c, x4, x5, x6, x7, x8, x9, x10, x11, x12⟩ := m
    rcases kinds k with rfl | rfl | rfl | rfl | h
    · exact Body_1 w s r c x4 x5 x6 x7 x8 x9 x10 x11 x12 hF hR htab
    · exact Body_2 w s r c x4 x5 x6 x7 x8 x9 x10 x11 x12 hF hR htab
    · exact Body_3 w s r c x4 x5 x6 x7 x8 x9 x10 x11 x12 hF hR
    · exact Body_4 w s r c x4 x5 x6 x7 x8 x9 x10 x11 x12 hF hR
    · rw [right_none h] at hR; cases hR
theorem BodyR_any (w : World) (m : Mg) (hF : m.Fine) : Calls Tryd.prog 43 #[.agg m.cells] w (MakePost (bodyM m) w) := by
  cases hR : rightM m with
  | false => exact BodyR_no w m hF (.inl hR)
  | true =>
    obtain ⟨k, s, r, c, x4, x5, x6, x7, x8, x9, x10, x11, x12⟩ := m
    rcases kinds k with rfl | rfl | rfl | rfl | h
    · exact BodyR_1 w s r c x4 x5 x6 x7 x8 x9 x10 x11 x12 hF hR
    · exact BodyR_2 w s r c x4 x5 x6 x7 x8 x9 x10 x11 x12 hF hR
    · exact BodyR_no w _ hF (.inr (by show (2 : Int) < 3; omega))
    · exact BodyR_no w _ hF (.inr (by show (2 : Int) < 4; omega))
    · rw [right_none h] at hR; cases hR
theorem body_size (m : Mg) : (bodyM m).size ≤ maxLen := by
  unfold bodyM
  split
  · exact make_size' _ _ _ _ (by omega)
  · exact Nat.zero_le _
set_option maxRecDepth 100000 in
set_option maxHeartbeats 12800000 in
theorem WSigned_any (w : World) (m : Mg) (hF : m.Fine) (htab : Tab w) : Calls Tryd.prog 39 #[.agg m.cells] w (MakePost (signedM m) w) := by
  have HBD := hide (fun W ht => Body_any W m hF ht)
  have hbs := body_size m
  have hx11 := hF.x11
  have HE := hide (fun (h : bodyM m = ByteArray.empty) => show signedM m = ByteArray.empty by unfold signedM; rw [if_pos h])
  have HS := hide (fun (h : ¬ bodyM m = ByteArray.empty) => show signedM m = makeV 11 0 [] [bodyM m, m.x11] by unfold signedM; rw [if_neg h])
  unfold MakePost at HBD
  generalize bodyM m = b at *
  generalize signedM m = sg at *
  obtain ⟨k, s, r, c, x4, x5, x6, x7, x8, x9, x10, x11, x12⟩ := m
  unfold Mg.cells at HBD ⊢
  simp only at HBD hx11 HS ⊢
  have HMB := hide (Blk.new w 53 #[.int .i64 k, .int .u32 (s : Nat), .int .u32 (r : Nat), .int .u64 (c : Nat), .string x4, .string x5, .string x6, .string x7, .string x8, .string x9, .string x10, .string x11, .string x12])
  have HO := hide ((Only.refl [] w).alloc (.cells #[.int .i64 k, .int .u32 (s : Nat), .int .u32 (r : Nat), .int .u64 (c : Nat), .string x4, .string x5, .string x6, .string x7, .string x8, .string x9, .string x10, .string x11, .string x12] 53))
  have HT := hide (htab.only HO.out (by simp))
  clear htab
  have m0 := HMB.out.cell 0; have m1 := HMB.out.cell 1; have m2 := HMB.out.cell 2; have m3 := HMB.out.cell 3; have m4 := HMB.out.cell 4; have m5 := HMB.out.cell 5; have m6 := HMB.out.cell 6; have m7 := HMB.out.cell 7; have m8 := HMB.out.cell 8; have m9 := HMB.out.cell 9; have m10 := HMB.out.cell 10; have m11 := HMB.out.cell 11; have m12 := HMB.out.cell 12; simp at m0 m1 m2 m3 m4 m5 m6 m7 m8 m9 m10 m11 m12
  clear hF
  by_cases hb : b = ByteArray.empty
  · have HV := hide (HE.out hb)
    have he : b.toList.isEmpty = true := by rw [hb]; kernel_rfl
    clear hb HE HS
    go_enter Tryd.func39, Tryd.ntmps39
    go_wp2_with (go_at_call 38; refine (HBD.out _ HT.out).mono ?_; rintro e v1 ⟨rfl, ho⟩; replace HO := hide (HO.out.trans ho); clear ho)
    go_ret
    exact makepost (HV.out.trans (by first | rfl | kernel_rfl)) HO.out
  · have HV := hide (HS.out hb)
    have he : b.toList.isEmpty = false := by
      cases h : b.toList.isEmpty with
      | false => rfl
      | true => exact absurd (toList_inj ((List.isEmpty_iff.1 h).trans (by kernel_rfl))) hb
    clear hb HE HS
    go_enter Tryd.func39, Tryd.ntmps39
    go_wp2_with (first
      | (go_at_call 38; refine (HBD.out _ HT.out).mono ?_; rintro e v1 ⟨rfl, ho⟩; replace HMB := hide (HMB.out.only ho (by simp)); replace HO := hide (HO.out.trans ho); replace HT := hide (HT.out.only ho (by simp)); clear ho m11; have m11 := HMB.out.cell 11; simp at m11)
      | (go_at_call 11; refine (make_new2 v1 HT.out _ rfl 11 (by decide) 0 (by omega) b x11 hbs hx11).mono ?_; rintro e v2 ⟨rfl, ho⟩; replace HO := hide (HO.out.trans ho); clear ho))
    go_ret
    exact makepost HV.out HO.out
set_option maxRecDepth 100000 in
set_option maxHeartbeats 12800000 in
theorem WSignedR_any (w : World) (m : Mg) (hF : m.Fine) : Calls Tryd.prog 44 #[.agg m.cells] w (MakePost (signedM m) w) := by
  have HBD := hide (fun W => BodyR_any W m hF)
  have hbs := body_size m
  have hx11 := hF.x11
  have HE := hide (fun (h : bodyM m = ByteArray.empty) => show signedM m = ByteArray.empty by unfold signedM; rw [if_pos h])
  have HS := hide (fun (h : ¬ bodyM m = ByteArray.empty) => show signedM m = makeV 11 0 [] [bodyM m, m.x11] by unfold signedM; rw [if_neg h])
  unfold MakePost at HBD
  generalize bodyM m = b at *
  generalize signedM m = sg at *
  obtain ⟨k, s, r, c, x4, x5, x6, x7, x8, x9, x10, x11, x12⟩ := m
  unfold Mg.cells at HBD ⊢
  simp only at HBD hx11 HS ⊢
  have HMB := hide (Blk.new w 53 #[.int .i64 k, .int .u32 (s : Nat), .int .u32 (r : Nat), .int .u64 (c : Nat), .string x4, .string x5, .string x6, .string x7, .string x8, .string x9, .string x10, .string x11, .string x12])
  have HO := hide ((Only.refl [] w).alloc (.cells #[.int .i64 k, .int .u32 (s : Nat), .int .u32 (r : Nat), .int .u64 (c : Nat), .string x4, .string x5, .string x6, .string x7, .string x8, .string x9, .string x10, .string x11, .string x12] 53))
  have m0 := HMB.out.cell 0; have m1 := HMB.out.cell 1; have m2 := HMB.out.cell 2; have m3 := HMB.out.cell 3; have m4 := HMB.out.cell 4; have m5 := HMB.out.cell 5; have m6 := HMB.out.cell 6; have m7 := HMB.out.cell 7; have m8 := HMB.out.cell 8; have m9 := HMB.out.cell 9; have m10 := HMB.out.cell 10; have m11 := HMB.out.cell 11; have m12 := HMB.out.cell 12; simp at m0 m1 m2 m3 m4 m5 m6 m7 m8 m9 m10 m11 m12
  clear hF
  by_cases hb : b = ByteArray.empty
  · have HV := hide (HE.out hb)
    have he : b.toList.isEmpty = true := by rw [hb]; kernel_rfl
    clear hb HE HS
    go_enter Tryd.func44, Tryd.ntmps44
    go_wp2_with (go_at_call 43; refine (HBD.out _).mono ?_; rintro e v1 ⟨rfl, ho⟩; replace HO := hide (HO.out.trans ho); clear ho)
    go_ret
    exact makepost (HV.out.trans (by first | rfl | kernel_rfl)) HO.out
  · have HV := hide (HS.out hb)
    have he : b.toList.isEmpty = false := by
      cases h : b.toList.isEmpty with
      | false => rfl
      | true => exact absurd (toList_inj ((List.isEmpty_iff.1 h).trans (by kernel_rfl))) hb
    clear hb HE HS
    go_enter Tryd.func44, Tryd.ntmps44
    go_wp2_with (first
      | (go_at_call 43; refine (HBD.out _).mono ?_; rintro e v1 ⟨rfl, ho⟩; replace HMB := hide (HMB.out.only ho (by simp)); replace HO := hide (HO.out.trans ho); clear ho m11; have m11 := HMB.out.cell 11; simp at m11)
      | (go_at_call 77; refine (listR_new2 v1 _ rfl b x11 hbs hx11).mono ?_; rintro e v2 ⟨rfl, ho⟩; replace HO := hide (HO.out.trans ho); clear ho))
    go_ret
    exact makepost HV.out HO.out
end
section
open Go.RowKit Go.Deep

set_option maxRecDepth 100000 in
set_option maxHeartbeats 12800000 in
theorem PrintR_1 (w : World) (s r c : Nat) (x4 x5 x6 x7 x8 x9 x10 x11 x12 : ByteArray) (hF : (Mg.mk 1 s r c x4 x5 x6 x7 x8 x9 x10 x11 x12).Fine) (hB : rightM (Mg.mk 1 s r c x4 x5 x6 x7 x8 x9 x10 x11 x12) = true) :
    Calls Tryd.prog 41 #[.agg #[.int .i64 1, .int .u32 (s : Nat), .int .u32 (r : Nat), .int .u64 (c : Nat), .string x4, .string x5, .string x6, .string x7, .string x8, .string x9, .string x10, .string x11, .string x12]] w fun e w' => ∃ v, e = .returned v ∧ Rd w' [] v (ints .u8 (byts (printM (Mg.mk 1 s r c x4 x5 x6 x7 x8 x9 x10 x11 x12)))) ∧ Only [] w w' := by
  obtain ⟨hs, hr, hc, hx4, hx5, hx6, hx7, hx8, hx9, hx10, hx11, hx12⟩ := hF
  simp only at hs hr hc hx4 hx5 hx6 hx7 hx8 hx9 hx10 hx11 hx12
  have hz4 : x4.size ≤ 65535 := fit_size (by have h := hB; simp [rightM, textsM] at h; simp [h])
  have hz5 : x5.size ≤ 65535 := fit_size (by have h := hB; simp [rightM, textsM] at h; simp [h])
  have hz6 : x6.size ≤ 65535 := fit_size (by have h := hB; simp [rightM, textsM] at h; simp [h])
  have hz11 : x11.size ≤ 65535 := fit_size (by have h := hB; simp [rightM, textsM] at h; simp [h])
  have hz12 : x12.size ≤ 65535 := fit_size (by have h := hB; simp [rightM, textsM] at h; simp [h])
  obtain ⟨i0, hi, hz0, hz1, hz2⟩ := info_parts (show (Tryd.prog.info? 5).map (fun i => (i.zero, i.size, i.bytes)) = some (some (.int .u8 0), 1, 1) by kernel_rfl)
  have HTR := hide (fun W => TermsR_1 W s r c x4 x5 x6 x7 x8 x9 x10 x11 x12)
  unfold TermsRPost at HTR
  rw [show (textsM (Mg.mk 1 s r c x4 x5 x6 x7 x8 x9 x10 x11 x12)).length = 5 from rfl] at HTR
  have HOW := hide (show ((w.alloc (.cells #[.int .i64 1, .int .u32 (s : Nat), .int .u32 (r : Nat), .int .u64 (c : Nat), .string x4, .string x5, .string x6, .string x7, .string x8, .string x9, .string x10, .string x11, .string x12] 53)).alloc (.cells #[.int .u8 1, .int .u8 0, .int .u8 0, .int .u8 0] 5)).ownsRow (w.heap.size + 1) 5 1 (.slice (some ⟨w.heap.size + 1, 0, none⟩) 4 4) 4 (ints .u8 (byts [1, 0, 0, 0])) by
    have h := World.ownsRow_lit (base := w.heap.size + 1) (e := 5) (size := 1) (w.alloc (.cells #[.int .i64 1, .int .u32 (s : Nat), .int .u32 (r : Nat), .int .u64 (c : Nat), .string x4, .string x5, .string x6, .string x7, .string x8, .string x9, .string x10, .string x11, .string x12] 53)) #[.int .u8 1, .int .u8 0, .int .u8 0, .int .u8 0] 4 (by simp) (by unfold maxLen; omega) rfl
    rw [World.size_alloc] at h
    exact h)
  have HMB := hide ((Blk.new w 53 #[.int .i64 1, .int .u32 (s : Nat), .int .u32 (r : Nat), .int .u64 (c : Nat), .string x4, .string x5, .string x6, .string x7, .string x8, .string x9, .string x10, .string x11, .string x12]).alloc (.cells #[.int .u8 1, .int .u8 0, .int .u8 0, .int .u8 0] 5))
  have HO := hide (((Only.refl [] w).alloc (.cells #[.int .i64 1, .int .u32 (s : Nat), .int .u32 (r : Nat), .int .u64 (c : Nat), .string x4, .string x5, .string x6, .string x7, .string x8, .string x9, .string x10, .string x11, .string x12] 53)).alloc (.cells #[.int .u8 1, .int .u8 0, .int .u8 0, .int .u8 0] 5))
  clear hB
  go_enter Tryd.func41, Tryd.ntmps41
  go_upto_region 2 with fail
  generalize ((w.alloc (.cells #[.int .i64 1, .int .u32 (s : Nat), .int .u32 (r : Nat), .int .u64 (c : Nat), .string x4, .string x5, .string x6, .string x7, .string x8, .string x9, .string x10, .string x11, .string x12] 53)).alloc (.cells #[.int .u8 1, .int .u8 0, .int .u8 0, .int .u8 0] 5)) = v0 at *
  have HBS := hide (show w.heap.size + 1 ≤ v0.heap.size by have := HMB.out.lt; omega)
  have m0 := HMB.out.cell 0; have m1 := HMB.out.cell 1; have m2 := HMB.out.cell 2; have m3 := HMB.out.cell 3; simp at m0 m1 m2 m3
  go_upto_region 4 with (first | (go_at_call 76; refine (numberR_any _ s 4 (by omega) (by omega)).mono ?_; rintro e ua ⟨va, rfl, hrd, ho⟩; obtain ⟨An, cn, hva, _, _⟩ := hrd.formb; rw [lowB_length] at hva; subst hva; have HRA := hide hrd.reads; replace HOW := hide (own_only HOW.out ho (by simp)); replace HMB := hide (HMB.out.only ho (by simp)); clear m0 m1 m2 m3; replace HO := hide (HO.out.trans ho); replace HBS := hide (Nat.le_trans HBS.out ho.size); clear ho hrd) | (at_builtin; refine wpList_append_any _ rfl (.tmp 13) (.tmp 17) 30 rfl (w.heap.size + 1) 5 i0 (.int .u8 0) 1 1 Tryd.underlying30 hi hz0 hz1 hz2 rfl (by decide) _ (4) _ rfl HOW.out ua.heap.size An 4 cn (ints .u8 (byts (lowB 4 s))) rfl HRA.out (ints_one _ _) (by unfold maxLen; omega) (by omega) HBS.out ?_; intro vv v1 hown1 hg1 _; have hbel := below_row hg1 (fun jj hjj => own_block_ge HOW.out hjj) HBS.out; rw [← ints_append, ← byts_append] at hown1; replace HOW := hide hown1; replace HMB := hide (HMB.out.below hbel (by omega)); replace HO := hide (only_below HO.out hbel (by omega)); replace HBS := hide (Nat.le_trans HBS.out hbel.size); clear hown1 hg1 hbel HRA))
  obtain ⟨A1, c1, rfl, _, _⟩ := own_form HOW.out
  have m0 := HMB.out.cell 0; have m1 := HMB.out.cell 1; have m2 := HMB.out.cell 2; have m3 := HMB.out.cell 3
  simp at m0 m1 m2 m3
  have m4 := HMB.out.cell 4; have m5 := HMB.out.cell 5; have m6 := HMB.out.cell 6; have m7 := HMB.out.cell 7; have m8 := HMB.out.cell 8; have m9 := HMB.out.cell 9; have m10 := HMB.out.cell 10; have m11 := HMB.out.cell 11; have m12 := HMB.out.cell 12
  simp at m4 m5 m6 m7 m8 m9 m10 m11 m12
  go_upto_region 10 with (go_at_call 42; refine (HTR.out _).mono ?_; rintro e vt ⟨g, rfl, hg, hb, ho⟩; have HTB := hide (show Blk vt g 9 #[.string x4, .string x5, .string x6, .string x11, .string x12] from hb); replace HOW := hide (own_only HOW.out ho (by simp)); replace HO := hide (HO.out.trans ho); replace HBS := hide (Nat.le_trans HBS.out ho.size); have HRW := hide (show Rd vt [] (.slice (some ⟨g, 0, none⟩) 5 5) (strc [x4, x5, x6, x11, x12]) from blk_strs hb [] (by simp) (by unfold maxLen; show 5 ≤ _; omega)); have HGB := hide hg; clear hg hb ho m0 m1 m2 m3 m4 m5 m6 m7 m8 m9 m10 m11 m12)
  refine wp_loop_rounds 6 ?_
  rw [rounds_succ]
  have cj := HTB.out.cell 0; simp at cj
  have hwj : IntKind.u64.wrap (x4.size : Int) = x4.size := by rw [IntKind.wrap_u64]; omega
  go_upto_region 13 with (first | (go_at_call 76; refine (numberR_any _ x4.size 2 (by omega) (by omega)).mono ?_; rintro e ua ⟨va, rfl, hrd, ho⟩; obtain ⟨An, cn, hva, _, _⟩ := hrd.formb; rw [lowB_length] at hva; subst hva; have HRA := hide hrd.reads; replace HOW := hide (own_only HOW.out ho (by simp)); replace HTB := hide (HTB.out.only ho (by simp)); replace HO := hide (HO.out.trans ho); replace HBS := hide (Nat.le_trans HBS.out ho.size); clear ho hrd) | (at_builtin; refine wpList_append_any _ rfl (.tmp 44) (.tmp 51) 30 rfl (w.heap.size + 1) 5 i0 (.int .u8 0) 1 1 Tryd.underlying30 hi hz0 hz1 hz2 rfl (by decide) _ (4 + 4) _ rfl HOW.out ua.heap.size An 2 cn (ints .u8 (byts (lowB 2 x4.size))) rfl HRA.out (ints_one _ _) (by unfold maxLen; omega) (by omega) HBS.out ?_; intro vv wa0 hown1 hg1 _; have hbel := below_row hg1 (fun jj hjj => own_block_ge HOW.out hjj) HBS.out; rw [← ints_append, ← byts_append] at hown1; have HOW0 := HOW; replace HOW := hide hown1; replace HTB := hide (HTB.out.grown hg1 (own_ne HOW0.out HTB.out (by decide))); replace HO := hide (only_below HO.out hbel (by omega)); replace HBS := hide (Nat.le_trans HBS.out hbel.size); clear hown1 hg1 hbel HRA))
  obtain ⟨B0, d0, rfl, _, _⟩ := own_form HOW.out
  clear cj
  have cj := HTB.out.cell 0; simp at cj
  go_wp2_with (at_builtin; refine Lib.wpList_append_own_string _ rfl _ _ 30 9 rfl (w.heap.size + 1) 5 i0 Tryd.underlying30 Tryd.underlying9 hi hz0 hz1 hz2 _ (4 + 4 + 2) _ rfl HOW.out x4 rfl (by unfold maxLen; omega) (by omega) HBS.out ?_; intro vv wb0 hown1 hg1 _; have hbel := below_row hg1 (fun jj hjj => own_block_ge HOW.out hjj) HBS.out; rw [str_cells, ← ints_append, ← byts_append] at hown1; have HOW0 := HOW; replace HOW := hide hown1; replace HTB := hide (HTB.out.grown hg1 (own_ne HOW0.out HTB.out (by decide))); replace HO := hide (only_below HO.out hbel (by omega)); replace HBS := hide (Nat.le_trans HBS.out hbel.size); clear hown1 hg1 hbel HOW0)
  obtain ⟨E0, f0, rfl, _, _⟩ := own_form HOW.out
  clear cj hwj
  rw [rounds_succ]
  have cj := HTB.out.cell 1; simp at cj
  have hwj : IntKind.u64.wrap (x5.size : Int) = x5.size := by rw [IntKind.wrap_u64]; omega
  go_upto_region 13 with (first | (go_at_call 76; refine (numberR_any _ x5.size 2 (by omega) (by omega)).mono ?_; rintro e ua ⟨va, rfl, hrd, ho⟩; obtain ⟨An, cn, hva, _, _⟩ := hrd.formb; rw [lowB_length] at hva; subst hva; have HRA := hide hrd.reads; replace HOW := hide (own_only HOW.out ho (by simp)); replace HTB := hide (HTB.out.only ho (by simp)); replace HO := hide (HO.out.trans ho); replace HBS := hide (Nat.le_trans HBS.out ho.size); clear ho hrd) | (at_builtin; refine wpList_append_any _ rfl (.tmp 44) (.tmp 51) 30 rfl (w.heap.size + 1) 5 i0 (.int .u8 0) 1 1 Tryd.underlying30 hi hz0 hz1 hz2 rfl (by decide) _ (4 + 4 + 2 + x4.size) _ rfl HOW.out ua.heap.size An 2 cn (ints .u8 (byts (lowB 2 x5.size))) rfl HRA.out (ints_one _ _) (by unfold maxLen; omega) (by omega) HBS.out ?_; intro vv wa1 hown1 hg1 _; have hbel := below_row hg1 (fun jj hjj => own_block_ge HOW.out hjj) HBS.out; rw [← ints_append, ← byts_append] at hown1; have HOW0 := HOW; replace HOW := hide hown1; replace HTB := hide (HTB.out.grown hg1 (own_ne HOW0.out HTB.out (by decide))); replace HO := hide (only_below HO.out hbel (by omega)); replace HBS := hide (Nat.le_trans HBS.out hbel.size); clear hown1 hg1 hbel HRA))
  obtain ⟨B1, d1, rfl, _, _⟩ := own_form HOW.out
  clear cj
  have cj := HTB.out.cell 1; simp at cj
  go_wp2_with (at_builtin; refine Lib.wpList_append_own_string _ rfl _ _ 30 9 rfl (w.heap.size + 1) 5 i0 Tryd.underlying30 Tryd.underlying9 hi hz0 hz1 hz2 _ (4 + 4 + 2 + x4.size + 2) _ rfl HOW.out x5 rfl (by unfold maxLen; omega) (by omega) HBS.out ?_; intro vv wb1 hown1 hg1 _; have hbel := below_row hg1 (fun jj hjj => own_block_ge HOW.out hjj) HBS.out; rw [str_cells, ← ints_append, ← byts_append] at hown1; have HOW0 := HOW; replace HOW := hide hown1; replace HTB := hide (HTB.out.grown hg1 (own_ne HOW0.out HTB.out (by decide))); replace HO := hide (only_below HO.out hbel (by omega)); replace HBS := hide (Nat.le_trans HBS.out hbel.size); clear hown1 hg1 hbel HOW0)
  obtain ⟨E1, f1, rfl, _, _⟩ := own_form HOW.out
  clear cj hwj
  rw [rounds_succ]
  have cj := HTB.out.cell 2; simp at cj
  have hwj : IntKind.u64.wrap (x6.size : Int) = x6.size := by rw [IntKind.wrap_u64]; omega
  go_upto_region 13 with (first | (go_at_call 76; refine (numberR_any _ x6.size 2 (by omega) (by omega)).mono ?_; rintro e ua ⟨va, rfl, hrd, ho⟩; obtain ⟨An, cn, hva, _, _⟩ := hrd.formb; rw [lowB_length] at hva; subst hva; have HRA := hide hrd.reads; replace HOW := hide (own_only HOW.out ho (by simp)); replace HTB := hide (HTB.out.only ho (by simp)); replace HO := hide (HO.out.trans ho); replace HBS := hide (Nat.le_trans HBS.out ho.size); clear ho hrd) | (at_builtin; refine wpList_append_any _ rfl (.tmp 44) (.tmp 51) 30 rfl (w.heap.size + 1) 5 i0 (.int .u8 0) 1 1 Tryd.underlying30 hi hz0 hz1 hz2 rfl (by decide) _ (4 + 4 + 2 + x4.size + 2 + x5.size) _ rfl HOW.out ua.heap.size An 2 cn (ints .u8 (byts (lowB 2 x6.size))) rfl HRA.out (ints_one _ _) (by unfold maxLen; omega) (by omega) HBS.out ?_; intro vv wa2 hown1 hg1 _; have hbel := below_row hg1 (fun jj hjj => own_block_ge HOW.out hjj) HBS.out; rw [← ints_append, ← byts_append] at hown1; have HOW0 := HOW; replace HOW := hide hown1; replace HTB := hide (HTB.out.grown hg1 (own_ne HOW0.out HTB.out (by decide))); replace HO := hide (only_below HO.out hbel (by omega)); replace HBS := hide (Nat.le_trans HBS.out hbel.size); clear hown1 hg1 hbel HRA))
  obtain ⟨B2, d2, rfl, _, _⟩ := own_form HOW.out
  clear cj
  have cj := HTB.out.cell 2; simp at cj
  go_wp2_with (at_builtin; refine Lib.wpList_append_own_string _ rfl _ _ 30 9 rfl (w.heap.size + 1) 5 i0 Tryd.underlying30 Tryd.underlying9 hi hz0 hz1 hz2 _ (4 + 4 + 2 + x4.size + 2 + x5.size + 2) _ rfl HOW.out x6 rfl (by unfold maxLen; omega) (by omega) HBS.out ?_; intro vv wb2 hown1 hg1 _; have hbel := below_row hg1 (fun jj hjj => own_block_ge HOW.out hjj) HBS.out; rw [str_cells, ← ints_append, ← byts_append] at hown1; have HOW0 := HOW; replace HOW := hide hown1; replace HTB := hide (HTB.out.grown hg1 (own_ne HOW0.out HTB.out (by decide))); replace HO := hide (only_below HO.out hbel (by omega)); replace HBS := hide (Nat.le_trans HBS.out hbel.size); clear hown1 hg1 hbel HOW0)
  obtain ⟨E2, f2, rfl, _, _⟩ := own_form HOW.out
  clear cj hwj
  rw [rounds_succ]
  have cj := HTB.out.cell 3; simp at cj
  have hwj : IntKind.u64.wrap (x11.size : Int) = x11.size := by rw [IntKind.wrap_u64]; omega
  go_upto_region 13 with (first | (go_at_call 76; refine (numberR_any _ x11.size 2 (by omega) (by omega)).mono ?_; rintro e ua ⟨va, rfl, hrd, ho⟩; obtain ⟨An, cn, hva, _, _⟩ := hrd.formb; rw [lowB_length] at hva; subst hva; have HRA := hide hrd.reads; replace HOW := hide (own_only HOW.out ho (by simp)); replace HTB := hide (HTB.out.only ho (by simp)); replace HO := hide (HO.out.trans ho); replace HBS := hide (Nat.le_trans HBS.out ho.size); clear ho hrd) | (at_builtin; refine wpList_append_any _ rfl (.tmp 44) (.tmp 51) 30 rfl (w.heap.size + 1) 5 i0 (.int .u8 0) 1 1 Tryd.underlying30 hi hz0 hz1 hz2 rfl (by decide) _ (4 + 4 + 2 + x4.size + 2 + x5.size + 2 + x6.size) _ rfl HOW.out ua.heap.size An 2 cn (ints .u8 (byts (lowB 2 x11.size))) rfl HRA.out (ints_one _ _) (by unfold maxLen; omega) (by omega) HBS.out ?_; intro vv wa3 hown1 hg1 _; have hbel := below_row hg1 (fun jj hjj => own_block_ge HOW.out hjj) HBS.out; rw [← ints_append, ← byts_append] at hown1; have HOW0 := HOW; replace HOW := hide hown1; replace HTB := hide (HTB.out.grown hg1 (own_ne HOW0.out HTB.out (by decide))); replace HO := hide (only_below HO.out hbel (by omega)); replace HBS := hide (Nat.le_trans HBS.out hbel.size); clear hown1 hg1 hbel HRA))
  obtain ⟨B3, d3, rfl, _, _⟩ := own_form HOW.out
  clear cj
  have cj := HTB.out.cell 3; simp at cj
  go_wp2_with (at_builtin; refine Lib.wpList_append_own_string _ rfl _ _ 30 9 rfl (w.heap.size + 1) 5 i0 Tryd.underlying30 Tryd.underlying9 hi hz0 hz1 hz2 _ (4 + 4 + 2 + x4.size + 2 + x5.size + 2 + x6.size + 2) _ rfl HOW.out x11 rfl (by unfold maxLen; omega) (by omega) HBS.out ?_; intro vv wb3 hown1 hg1 _; have hbel := below_row hg1 (fun jj hjj => own_block_ge HOW.out hjj) HBS.out; rw [str_cells, ← ints_append, ← byts_append] at hown1; have HOW0 := HOW; replace HOW := hide hown1; replace HTB := hide (HTB.out.grown hg1 (own_ne HOW0.out HTB.out (by decide))); replace HO := hide (only_below HO.out hbel (by omega)); replace HBS := hide (Nat.le_trans HBS.out hbel.size); clear hown1 hg1 hbel HOW0)
  obtain ⟨E3, f3, rfl, _, _⟩ := own_form HOW.out
  clear cj hwj
  rw [rounds_succ]
  have cj := HTB.out.cell 4; simp at cj
  have hwj : IntKind.u64.wrap (x12.size : Int) = x12.size := by rw [IntKind.wrap_u64]; omega
  go_upto_region 13 with (first | (go_at_call 76; refine (numberR_any _ x12.size 2 (by omega) (by omega)).mono ?_; rintro e ua ⟨va, rfl, hrd, ho⟩; obtain ⟨An, cn, hva, _, _⟩ := hrd.formb; rw [lowB_length] at hva; subst hva; have HRA := hide hrd.reads; replace HOW := hide (own_only HOW.out ho (by simp)); replace HTB := hide (HTB.out.only ho (by simp)); replace HO := hide (HO.out.trans ho); replace HBS := hide (Nat.le_trans HBS.out ho.size); clear ho hrd) | (at_builtin; refine wpList_append_any _ rfl (.tmp 44) (.tmp 51) 30 rfl (w.heap.size + 1) 5 i0 (.int .u8 0) 1 1 Tryd.underlying30 hi hz0 hz1 hz2 rfl (by decide) _ (4 + 4 + 2 + x4.size + 2 + x5.size + 2 + x6.size + 2 + x11.size) _ rfl HOW.out ua.heap.size An 2 cn (ints .u8 (byts (lowB 2 x12.size))) rfl HRA.out (ints_one _ _) (by unfold maxLen; omega) (by omega) HBS.out ?_; intro vv wa4 hown1 hg1 _; have hbel := below_row hg1 (fun jj hjj => own_block_ge HOW.out hjj) HBS.out; rw [← ints_append, ← byts_append] at hown1; have HOW0 := HOW; replace HOW := hide hown1; replace HTB := hide (HTB.out.grown hg1 (own_ne HOW0.out HTB.out (by decide))); replace HO := hide (only_below HO.out hbel (by omega)); replace HBS := hide (Nat.le_trans HBS.out hbel.size); clear hown1 hg1 hbel HRA))
  obtain ⟨B4, d4, rfl, _, _⟩ := own_form HOW.out
  clear cj
  have cj := HTB.out.cell 4; simp at cj
  go_wp2_with (at_builtin; refine Lib.wpList_append_own_string _ rfl _ _ 30 9 rfl (w.heap.size + 1) 5 i0 Tryd.underlying30 Tryd.underlying9 hi hz0 hz1 hz2 _ (4 + 4 + 2 + x4.size + 2 + x5.size + 2 + x6.size + 2 + x11.size + 2) _ rfl HOW.out x12 rfl (by unfold maxLen; omega) (by omega) HBS.out ?_; intro vv wb4 hown1 hg1 _; have hbel := below_row hg1 (fun jj hjj => own_block_ge HOW.out hjj) HBS.out; rw [str_cells, ← ints_append, ← byts_append] at hown1; have HOW0 := HOW; replace HOW := hide hown1; replace HTB := hide (HTB.out.grown hg1 (own_ne HOW0.out HTB.out (by decide))); replace HO := hide (only_below HO.out hbel (by omega)); replace HBS := hide (Nat.le_trans HBS.out hbel.size); clear hown1 hg1 hbel HOW0)
  obtain ⟨E4, f4, rfl, _, _⟩ := own_form HOW.out
  clear cj hwj
  rw [rounds_succ]
  go_wp2_with fail
  go_ret
  exact ⟨_, rfl, (Rd.of_own (N := []) HOW.out (by simp)).1, HO.out⟩
end
section
open Go.RowKit Go.Deep

set_option maxRecDepth 100000 in
set_option maxHeartbeats 12800000 in
theorem PrintR_2 (w : World) (s r c : Nat) (x4 x5 x6 x7 x8 x9 x10 x11 x12 : ByteArray) (hF : (Mg.mk 2 s r c x4 x5 x6 x7 x8 x9 x10 x11 x12).Fine) (hB : rightM (Mg.mk 2 s r c x4 x5 x6 x7 x8 x9 x10 x11 x12) = true) :
    Calls Tryd.prog 41 #[.agg #[.int .i64 2, .int .u32 (s : Nat), .int .u32 (r : Nat), .int .u64 (c : Nat), .string x4, .string x5, .string x6, .string x7, .string x8, .string x9, .string x10, .string x11, .string x12]] w fun e w' => ∃ v, e = .returned v ∧ Rd w' [] v (ints .u8 (byts (printM (Mg.mk 2 s r c x4 x5 x6 x7 x8 x9 x10 x11 x12)))) ∧ Only [] w w' := by
  obtain ⟨hs, hr, hc, hx4, hx5, hx6, hx7, hx8, hx9, hx10, hx11, hx12⟩ := hF
  simp only at hs hr hc hx4 hx5 hx6 hx7 hx8 hx9 hx10 hx11 hx12
  have hz4 : x4.size ≤ 65535 := fit_size (by have h := hB; simp [rightM, textsM] at h; simp [h])
  have hz7 : x7.size ≤ 65535 := fit_size (by have h := hB; simp [rightM, textsM] at h; simp [h])
  have hz11 : x11.size ≤ 65535 := fit_size (by have h := hB; simp [rightM, textsM] at h; simp [h])
  have hz12 : x12.size ≤ 65535 := fit_size (by have h := hB; simp [rightM, textsM] at h; simp [h])
  obtain ⟨i0, hi, hz0, hz1, hz2⟩ := info_parts (show (Tryd.prog.info? 5).map (fun i => (i.zero, i.size, i.bytes)) = some (some (.int .u8 0), 1, 1) by kernel_rfl)
  have HTR := hide (fun W => TermsR_2 W s r c x4 x5 x6 x7 x8 x9 x10 x11 x12)
  unfold TermsRPost at HTR
  rw [show (textsM (Mg.mk 2 s r c x4 x5 x6 x7 x8 x9 x10 x11 x12)).length = 4 from rfl] at HTR
  have HOW := hide (show ((w.alloc (.cells #[.int .i64 2, .int .u32 (s : Nat), .int .u32 (r : Nat), .int .u64 (c : Nat), .string x4, .string x5, .string x6, .string x7, .string x8, .string x9, .string x10, .string x11, .string x12] 53)).alloc (.cells #[.int .u8 2, .int .u8 0, .int .u8 0, .int .u8 0] 5)).ownsRow (w.heap.size + 1) 5 1 (.slice (some ⟨w.heap.size + 1, 0, none⟩) 4 4) 4 (ints .u8 (byts [2, 0, 0, 0])) by
    have h := World.ownsRow_lit (base := w.heap.size + 1) (e := 5) (size := 1) (w.alloc (.cells #[.int .i64 2, .int .u32 (s : Nat), .int .u32 (r : Nat), .int .u64 (c : Nat), .string x4, .string x5, .string x6, .string x7, .string x8, .string x9, .string x10, .string x11, .string x12] 53)) #[.int .u8 2, .int .u8 0, .int .u8 0, .int .u8 0] 4 (by simp) (by unfold maxLen; omega) rfl
    rw [World.size_alloc] at h
    exact h)
  have HMB := hide ((Blk.new w 53 #[.int .i64 2, .int .u32 (s : Nat), .int .u32 (r : Nat), .int .u64 (c : Nat), .string x4, .string x5, .string x6, .string x7, .string x8, .string x9, .string x10, .string x11, .string x12]).alloc (.cells #[.int .u8 2, .int .u8 0, .int .u8 0, .int .u8 0] 5))
  have HO := hide (((Only.refl [] w).alloc (.cells #[.int .i64 2, .int .u32 (s : Nat), .int .u32 (r : Nat), .int .u64 (c : Nat), .string x4, .string x5, .string x6, .string x7, .string x8, .string x9, .string x10, .string x11, .string x12] 53)).alloc (.cells #[.int .u8 2, .int .u8 0, .int .u8 0, .int .u8 0] 5))
  clear hB
  go_enter Tryd.func41, Tryd.ntmps41
  go_upto_region 2 with fail
  generalize ((w.alloc (.cells #[.int .i64 2, .int .u32 (s : Nat), .int .u32 (r : Nat), .int .u64 (c : Nat), .string x4, .string x5, .string x6, .string x7, .string x8, .string x9, .string x10, .string x11, .string x12] 53)).alloc (.cells #[.int .u8 2, .int .u8 0, .int .u8 0, .int .u8 0] 5)) = v0 at *
  have HBS := hide (show w.heap.size + 1 ≤ v0.heap.size by have := HMB.out.lt; omega)
  have m0 := HMB.out.cell 0; have m1 := HMB.out.cell 1; have m2 := HMB.out.cell 2; have m3 := HMB.out.cell 3; simp at m0 m1 m2 m3
  go_upto_region 4 with (first | (go_at_call 76; refine (numberR_any _ s 4 (by omega) (by omega)).mono ?_; rintro e ua ⟨va, rfl, hrd, ho⟩; obtain ⟨An, cn, hva, _, _⟩ := hrd.formb; rw [lowB_length] at hva; subst hva; have HRA := hide hrd.reads; replace HOW := hide (own_only HOW.out ho (by simp)); replace HMB := hide (HMB.out.only ho (by simp)); clear m0 m1 m2 m3; replace HO := hide (HO.out.trans ho); replace HBS := hide (Nat.le_trans HBS.out ho.size); clear ho hrd) | (at_builtin; refine wpList_append_any _ rfl (.tmp 13) (.tmp 17) 30 rfl (w.heap.size + 1) 5 i0 (.int .u8 0) 1 1 Tryd.underlying30 hi hz0 hz1 hz2 rfl (by decide) _ (4) _ rfl HOW.out ua.heap.size An 4 cn (ints .u8 (byts (lowB 4 s))) rfl HRA.out (ints_one _ _) (by unfold maxLen; omega) (by omega) HBS.out ?_; intro vv v1 hown1 hg1 _; have hbel := below_row hg1 (fun jj hjj => own_block_ge HOW.out hjj) HBS.out; rw [← ints_append, ← byts_append] at hown1; replace HOW := hide hown1; replace HMB := hide (HMB.out.below hbel (by omega)); replace HO := hide (only_below HO.out hbel (by omega)); replace HBS := hide (Nat.le_trans HBS.out hbel.size); clear hown1 hg1 hbel HRA))
  obtain ⟨A1, c1, rfl, _, _⟩ := own_form HOW.out
  have m0 := HMB.out.cell 0; have m1 := HMB.out.cell 1; have m2 := HMB.out.cell 2; have m3 := HMB.out.cell 3
  simp at m0 m1 m2 m3
  go_upto_region 6 with (first | (go_at_call 76; refine (numberR_any _ r 4 (by omega) (by omega)).mono ?_; rintro e ua ⟨va, rfl, hrd, ho⟩; obtain ⟨An, cn, hva, _, _⟩ := hrd.formb; rw [lowB_length] at hva; subst hva; have HRA := hide hrd.reads; replace HOW := hide (own_only HOW.out ho (by simp)); replace HMB := hide (HMB.out.only ho (by simp)); clear m0 m1 m2 m3; replace HO := hide (HO.out.trans ho); replace HBS := hide (Nat.le_trans HBS.out ho.size); clear ho hrd) | (at_builtin; refine wpList_append_any _ rfl (.tmp 22) (.tmp 26) 30 rfl (w.heap.size + 1) 5 i0 (.int .u8 0) 1 1 Tryd.underlying30 hi hz0 hz1 hz2 rfl (by decide) _ (4 + 4) _ rfl HOW.out ua.heap.size An 4 cn (ints .u8 (byts (lowB 4 r))) rfl HRA.out (ints_one _ _) (by unfold maxLen; omega) (by omega) HBS.out ?_; intro vv v2 hown1 hg1 _; have hbel := below_row hg1 (fun jj hjj => own_block_ge HOW.out hjj) HBS.out; rw [← ints_append, ← byts_append] at hown1; replace HOW := hide hown1; replace HMB := hide (HMB.out.below hbel (by omega)); replace HO := hide (only_below HO.out hbel (by omega)); replace HBS := hide (Nat.le_trans HBS.out hbel.size); clear hown1 hg1 hbel HRA))
  obtain ⟨A2, c2, rfl, _, _⟩ := own_form HOW.out
  have m0 := HMB.out.cell 0; have m1 := HMB.out.cell 1; have m2 := HMB.out.cell 2; have m3 := HMB.out.cell 3
  simp at m0 m1 m2 m3
  have m4 := HMB.out.cell 4; have m5 := HMB.out.cell 5; have m6 := HMB.out.cell 6; have m7 := HMB.out.cell 7; have m8 := HMB.out.cell 8; have m9 := HMB.out.cell 9; have m10 := HMB.out.cell 10; have m11 := HMB.out.cell 11; have m12 := HMB.out.cell 12
  simp at m4 m5 m6 m7 m8 m9 m10 m11 m12
  go_upto_region 10 with (go_at_call 42; refine (HTR.out _).mono ?_; rintro e vt ⟨g, rfl, hg, hb, ho⟩; have HTB := hide (show Blk vt g 9 #[.string x4, .string x7, .string x11, .string x12] from hb); replace HOW := hide (own_only HOW.out ho (by simp)); replace HO := hide (HO.out.trans ho); replace HBS := hide (Nat.le_trans HBS.out ho.size); have HRW := hide (show Rd vt [] (.slice (some ⟨g, 0, none⟩) 4 4) (strc [x4, x7, x11, x12]) from blk_strs hb [] (by simp) (by unfold maxLen; show 4 ≤ _; omega)); have HGB := hide hg; clear hg hb ho m0 m1 m2 m3 m4 m5 m6 m7 m8 m9 m10 m11 m12)
  refine wp_loop_rounds 5 ?_
  rw [rounds_succ]
  have cj := HTB.out.cell 0; simp at cj
  have hwj : IntKind.u64.wrap (x4.size : Int) = x4.size := by rw [IntKind.wrap_u64]; omega
  go_upto_region 13 with (first | (go_at_call 76; refine (numberR_any _ x4.size 2 (by omega) (by omega)).mono ?_; rintro e ua ⟨va, rfl, hrd, ho⟩; obtain ⟨An, cn, hva, _, _⟩ := hrd.formb; rw [lowB_length] at hva; subst hva; have HRA := hide hrd.reads; replace HOW := hide (own_only HOW.out ho (by simp)); replace HTB := hide (HTB.out.only ho (by simp)); replace HO := hide (HO.out.trans ho); replace HBS := hide (Nat.le_trans HBS.out ho.size); clear ho hrd) | (at_builtin; refine wpList_append_any _ rfl (.tmp 44) (.tmp 51) 30 rfl (w.heap.size + 1) 5 i0 (.int .u8 0) 1 1 Tryd.underlying30 hi hz0 hz1 hz2 rfl (by decide) _ (4 + 4 + 4) _ rfl HOW.out ua.heap.size An 2 cn (ints .u8 (byts (lowB 2 x4.size))) rfl HRA.out (ints_one _ _) (by unfold maxLen; omega) (by omega) HBS.out ?_; intro vv wa0 hown1 hg1 _; have hbel := below_row hg1 (fun jj hjj => own_block_ge HOW.out hjj) HBS.out; rw [← ints_append, ← byts_append] at hown1; have HOW0 := HOW; replace HOW := hide hown1; replace HTB := hide (HTB.out.grown hg1 (own_ne HOW0.out HTB.out (by decide))); replace HO := hide (only_below HO.out hbel (by omega)); replace HBS := hide (Nat.le_trans HBS.out hbel.size); clear hown1 hg1 hbel HRA))
  obtain ⟨B0, d0, rfl, _, _⟩ := own_form HOW.out
  clear cj
  have cj := HTB.out.cell 0; simp at cj
  go_wp2_with (at_builtin; refine Lib.wpList_append_own_string _ rfl _ _ 30 9 rfl (w.heap.size + 1) 5 i0 Tryd.underlying30 Tryd.underlying9 hi hz0 hz1 hz2 _ (4 + 4 + 4 + 2) _ rfl HOW.out x4 rfl (by unfold maxLen; omega) (by omega) HBS.out ?_; intro vv wb0 hown1 hg1 _; have hbel := below_row hg1 (fun jj hjj => own_block_ge HOW.out hjj) HBS.out; rw [str_cells, ← ints_append, ← byts_append] at hown1; have HOW0 := HOW; replace HOW := hide hown1; replace HTB := hide (HTB.out.grown hg1 (own_ne HOW0.out HTB.out (by decide))); replace HO := hide (only_below HO.out hbel (by omega)); replace HBS := hide (Nat.le_trans HBS.out hbel.size); clear hown1 hg1 hbel HOW0)
  obtain ⟨E0, f0, rfl, _, _⟩ := own_form HOW.out
  clear cj hwj
  rw [rounds_succ]
  have cj := HTB.out.cell 1; simp at cj
  have hwj : IntKind.u64.wrap (x7.size : Int) = x7.size := by rw [IntKind.wrap_u64]; omega
  go_upto_region 13 with (first | (go_at_call 76; refine (numberR_any _ x7.size 2 (by omega) (by omega)).mono ?_; rintro e ua ⟨va, rfl, hrd, ho⟩; obtain ⟨An, cn, hva, _, _⟩ := hrd.formb; rw [lowB_length] at hva; subst hva; have HRA := hide hrd.reads; replace HOW := hide (own_only HOW.out ho (by simp)); replace HTB := hide (HTB.out.only ho (by simp)); replace HO := hide (HO.out.trans ho); replace HBS := hide (Nat.le_trans HBS.out ho.size); clear ho hrd) | (at_builtin; refine wpList_append_any _ rfl (.tmp 44) (.tmp 51) 30 rfl (w.heap.size + 1) 5 i0 (.int .u8 0) 1 1 Tryd.underlying30 hi hz0 hz1 hz2 rfl (by decide) _ (4 + 4 + 4 + 2 + x4.size) _ rfl HOW.out ua.heap.size An 2 cn (ints .u8 (byts (lowB 2 x7.size))) rfl HRA.out (ints_one _ _) (by unfold maxLen; omega) (by omega) HBS.out ?_; intro vv wa1 hown1 hg1 _; have hbel := below_row hg1 (fun jj hjj => own_block_ge HOW.out hjj) HBS.out; rw [← ints_append, ← byts_append] at hown1; have HOW0 := HOW; replace HOW := hide hown1; replace HTB := hide (HTB.out.grown hg1 (own_ne HOW0.out HTB.out (by decide))); replace HO := hide (only_below HO.out hbel (by omega)); replace HBS := hide (Nat.le_trans HBS.out hbel.size); clear hown1 hg1 hbel HRA))
  obtain ⟨B1, d1, rfl, _, _⟩ := own_form HOW.out
  clear cj
  have cj := HTB.out.cell 1; simp at cj
  go_wp2_with (at_builtin; refine Lib.wpList_append_own_string _ rfl _ _ 30 9 rfl (w.heap.size + 1) 5 i0 Tryd.underlying30 Tryd.underlying9 hi hz0 hz1 hz2 _ (4 + 4 + 4 + 2 + x4.size + 2) _ rfl HOW.out x7 rfl (by unfold maxLen; omega) (by omega) HBS.out ?_; intro vv wb1 hown1 hg1 _; have hbel := below_row hg1 (fun jj hjj => own_block_ge HOW.out hjj) HBS.out; rw [str_cells, ← ints_append, ← byts_append] at hown1; have HOW0 := HOW; replace HOW := hide hown1; replace HTB := hide (HTB.out.grown hg1 (own_ne HOW0.out HTB.out (by decide))); replace HO := hide (only_below HO.out hbel (by omega)); replace HBS := hide (Nat.le_trans HBS.out hbel.size); clear hown1 hg1 hbel HOW0)
  obtain ⟨E1, f1, rfl, _, _⟩ := own_form HOW.out
  clear cj hwj
  rw [rounds_succ]
  have cj := HTB.out.cell 2; simp at cj
  have hwj : IntKind.u64.wrap (x11.size : Int) = x11.size := by rw [IntKind.wrap_u64]; omega
  go_upto_region 13 with (first | (go_at_call 76; refine (numberR_any _ x11.size 2 (by omega) (by omega)).mono ?_; rintro e ua ⟨va, rfl, hrd, ho⟩; obtain ⟨An, cn, hva, _, _⟩ := hrd.formb; rw [lowB_length] at hva; subst hva; have HRA := hide hrd.reads; replace HOW := hide (own_only HOW.out ho (by simp)); replace HTB := hide (HTB.out.only ho (by simp)); replace HO := hide (HO.out.trans ho); replace HBS := hide (Nat.le_trans HBS.out ho.size); clear ho hrd) | (at_builtin; refine wpList_append_any _ rfl (.tmp 44) (.tmp 51) 30 rfl (w.heap.size + 1) 5 i0 (.int .u8 0) 1 1 Tryd.underlying30 hi hz0 hz1 hz2 rfl (by decide) _ (4 + 4 + 4 + 2 + x4.size + 2 + x7.size) _ rfl HOW.out ua.heap.size An 2 cn (ints .u8 (byts (lowB 2 x11.size))) rfl HRA.out (ints_one _ _) (by unfold maxLen; omega) (by omega) HBS.out ?_; intro vv wa2 hown1 hg1 _; have hbel := below_row hg1 (fun jj hjj => own_block_ge HOW.out hjj) HBS.out; rw [← ints_append, ← byts_append] at hown1; have HOW0 := HOW; replace HOW := hide hown1; replace HTB := hide (HTB.out.grown hg1 (own_ne HOW0.out HTB.out (by decide))); replace HO := hide (only_below HO.out hbel (by omega)); replace HBS := hide (Nat.le_trans HBS.out hbel.size); clear hown1 hg1 hbel HRA))
  obtain ⟨B2, d2, rfl, _, _⟩ := own_form HOW.out
  clear cj
  have cj := HTB.out.cell 2; simp at cj
  go_wp2_with (at_builtin; refine Lib.wpList_append_own_string _ rfl _ _ 30 9 rfl (w.heap.size + 1) 5 i0 Tryd.underlying30 Tryd.underlying9 hi hz0 hz1 hz2 _ (4 + 4 + 4 + 2 + x4.size + 2 + x7.size + 2) _ rfl HOW.out x11 rfl (by unfold maxLen; omega) (by omega) HBS.out ?_; intro vv wb2 hown1 hg1 _; have hbel := below_row hg1 (fun jj hjj => own_block_ge HOW.out hjj) HBS.out; rw [str_cells, ← ints_append, ← byts_append] at hown1; have HOW0 := HOW; replace HOW := hide hown1; replace HTB := hide (HTB.out.grown hg1 (own_ne HOW0.out HTB.out (by decide))); replace HO := hide (only_below HO.out hbel (by omega)); replace HBS := hide (Nat.le_trans HBS.out hbel.size); clear hown1 hg1 hbel HOW0)
  obtain ⟨E2, f2, rfl, _, _⟩ := own_form HOW.out
  clear cj hwj
  rw [rounds_succ]
  have cj := HTB.out.cell 3; simp at cj
  have hwj : IntKind.u64.wrap (x12.size : Int) = x12.size := by rw [IntKind.wrap_u64]; omega
  go_upto_region 13 with (first | (go_at_call 76; refine (numberR_any _ x12.size 2 (by omega) (by omega)).mono ?_; rintro e ua ⟨va, rfl, hrd, ho⟩; obtain ⟨An, cn, hva, _, _⟩ := hrd.formb; rw [lowB_length] at hva; subst hva; have HRA := hide hrd.reads; replace HOW := hide (own_only HOW.out ho (by simp)); replace HTB := hide (HTB.out.only ho (by simp)); replace HO := hide (HO.out.trans ho); replace HBS := hide (Nat.le_trans HBS.out ho.size); clear ho hrd) | (at_builtin; refine wpList_append_any _ rfl (.tmp 44) (.tmp 51) 30 rfl (w.heap.size + 1) 5 i0 (.int .u8 0) 1 1 Tryd.underlying30 hi hz0 hz1 hz2 rfl (by decide) _ (4 + 4 + 4 + 2 + x4.size + 2 + x7.size + 2 + x11.size) _ rfl HOW.out ua.heap.size An 2 cn (ints .u8 (byts (lowB 2 x12.size))) rfl HRA.out (ints_one _ _) (by unfold maxLen; omega) (by omega) HBS.out ?_; intro vv wa3 hown1 hg1 _; have hbel := below_row hg1 (fun jj hjj => own_block_ge HOW.out hjj) HBS.out; rw [← ints_append, ← byts_append] at hown1; have HOW0 := HOW; replace HOW := hide hown1; replace HTB := hide (HTB.out.grown hg1 (own_ne HOW0.out HTB.out (by decide))); replace HO := hide (only_below HO.out hbel (by omega)); replace HBS := hide (Nat.le_trans HBS.out hbel.size); clear hown1 hg1 hbel HRA))
  obtain ⟨B3, d3, rfl, _, _⟩ := own_form HOW.out
  clear cj
  have cj := HTB.out.cell 3; simp at cj
  go_wp2_with (at_builtin; refine Lib.wpList_append_own_string _ rfl _ _ 30 9 rfl (w.heap.size + 1) 5 i0 Tryd.underlying30 Tryd.underlying9 hi hz0 hz1 hz2 _ (4 + 4 + 4 + 2 + x4.size + 2 + x7.size + 2 + x11.size + 2) _ rfl HOW.out x12 rfl (by unfold maxLen; omega) (by omega) HBS.out ?_; intro vv wb3 hown1 hg1 _; have hbel := below_row hg1 (fun jj hjj => own_block_ge HOW.out hjj) HBS.out; rw [str_cells, ← ints_append, ← byts_append] at hown1; have HOW0 := HOW; replace HOW := hide hown1; replace HTB := hide (HTB.out.grown hg1 (own_ne HOW0.out HTB.out (by decide))); replace HO := hide (only_below HO.out hbel (by omega)); replace HBS := hide (Nat.le_trans HBS.out hbel.size); clear hown1 hg1 hbel HOW0)
  obtain ⟨E3, f3, rfl, _, _⟩ := own_form HOW.out
  clear cj hwj
  rw [rounds_succ]
  go_wp2_with fail
  go_ret
  exact ⟨_, rfl, (Rd.of_own (N := []) HOW.out (by simp)).1, HO.out⟩
end
section
open Go.RowKit Go.Deep

set_option maxRecDepth 100000 in
set_option maxHeartbeats 12800000 in
theorem PrintR_3 (w : World) (s r c : Nat) (x4 x5 x6 x7 x8 x9 x10 x11 x12 : ByteArray) (hF : (Mg.mk 3 s r c x4 x5 x6 x7 x8 x9 x10 x11 x12).Fine) (hB : rightM (Mg.mk 3 s r c x4 x5 x6 x7 x8 x9 x10 x11 x12) = true) :
    Calls Tryd.prog 41 #[.agg #[.int .i64 3, .int .u32 (s : Nat), .int .u32 (r : Nat), .int .u64 (c : Nat), .string x4, .string x5, .string x6, .string x7, .string x8, .string x9, .string x10, .string x11, .string x12]] w fun e w' => ∃ v, e = .returned v ∧ Rd w' [] v (ints .u8 (byts (printM (Mg.mk 3 s r c x4 x5 x6 x7 x8 x9 x10 x11 x12)))) ∧ Only [] w w' := by
  obtain ⟨hs, hr, hc, hx4, hx5, hx6, hx7, hx8, hx9, hx10, hx11, hx12⟩ := hF
  simp only at hs hr hc hx4 hx5 hx6 hx7 hx8 hx9 hx10 hx11 hx12
  have hz8 : x8.size ≤ 65535 := fit_size (by have h := hB; simp [rightM, textsM] at h; simp [h])
  have hz9 : x9.size ≤ 65535 := fit_size (by have h := hB; simp [rightM, textsM] at h; simp [h])
  obtain ⟨i0, hi, hz0, hz1, hz2⟩ := info_parts (show (Tryd.prog.info? 5).map (fun i => (i.zero, i.size, i.bytes)) = some (some (.int .u8 0), 1, 1) by kernel_rfl)
  have HTR := hide (fun W => TermsR_3 W s r c x4 x5 x6 x7 x8 x9 x10 x11 x12)
  unfold TermsRPost at HTR
  rw [show (textsM (Mg.mk 3 s r c x4 x5 x6 x7 x8 x9 x10 x11 x12)).length = 2 from rfl] at HTR
  have HOW := hide (show ((w.alloc (.cells #[.int .i64 3, .int .u32 (s : Nat), .int .u32 (r : Nat), .int .u64 (c : Nat), .string x4, .string x5, .string x6, .string x7, .string x8, .string x9, .string x10, .string x11, .string x12] 53)).alloc (.cells #[.int .u8 3, .int .u8 0, .int .u8 0, .int .u8 0] 5)).ownsRow (w.heap.size + 1) 5 1 (.slice (some ⟨w.heap.size + 1, 0, none⟩) 4 4) 4 (ints .u8 (byts [3, 0, 0, 0])) by
    have h := World.ownsRow_lit (base := w.heap.size + 1) (e := 5) (size := 1) (w.alloc (.cells #[.int .i64 3, .int .u32 (s : Nat), .int .u32 (r : Nat), .int .u64 (c : Nat), .string x4, .string x5, .string x6, .string x7, .string x8, .string x9, .string x10, .string x11, .string x12] 53)) #[.int .u8 3, .int .u8 0, .int .u8 0, .int .u8 0] 4 (by simp) (by unfold maxLen; omega) rfl
    rw [World.size_alloc] at h
    exact h)
  have HMB := hide ((Blk.new w 53 #[.int .i64 3, .int .u32 (s : Nat), .int .u32 (r : Nat), .int .u64 (c : Nat), .string x4, .string x5, .string x6, .string x7, .string x8, .string x9, .string x10, .string x11, .string x12]).alloc (.cells #[.int .u8 3, .int .u8 0, .int .u8 0, .int .u8 0] 5))
  have HO := hide (((Only.refl [] w).alloc (.cells #[.int .i64 3, .int .u32 (s : Nat), .int .u32 (r : Nat), .int .u64 (c : Nat), .string x4, .string x5, .string x6, .string x7, .string x8, .string x9, .string x10, .string x11, .string x12] 53)).alloc (.cells #[.int .u8 3, .int .u8 0, .int .u8 0, .int .u8 0] 5))
  clear hB
  go_enter Tryd.func41, Tryd.ntmps41
  go_upto_region 2 with fail
  generalize ((w.alloc (.cells #[.int .i64 3, .int .u32 (s : Nat), .int .u32 (r : Nat), .int .u64 (c : Nat), .string x4, .string x5, .string x6, .string x7, .string x8, .string x9, .string x10, .string x11, .string x12] 53)).alloc (.cells #[.int .u8 3, .int .u8 0, .int .u8 0, .int .u8 0] 5)) = v0 at *
  have HBS := hide (show w.heap.size + 1 ≤ v0.heap.size by have := HMB.out.lt; omega)
  have m0 := HMB.out.cell 0; have m1 := HMB.out.cell 1; have m2 := HMB.out.cell 2; have m3 := HMB.out.cell 3; simp at m0 m1 m2 m3
  go_upto_region 6 with (first | (go_at_call 76; refine (numberR_any _ r 4 (by omega) (by omega)).mono ?_; rintro e ua ⟨va, rfl, hrd, ho⟩; obtain ⟨An, cn, hva, _, _⟩ := hrd.formb; rw [lowB_length] at hva; subst hva; have HRA := hide hrd.reads; replace HOW := hide (own_only HOW.out ho (by simp)); replace HMB := hide (HMB.out.only ho (by simp)); clear m0 m1 m2 m3; replace HO := hide (HO.out.trans ho); replace HBS := hide (Nat.le_trans HBS.out ho.size); clear ho hrd) | (at_builtin; refine wpList_append_any _ rfl (.tmp 22) (.tmp 26) 30 rfl (w.heap.size + 1) 5 i0 (.int .u8 0) 1 1 Tryd.underlying30 hi hz0 hz1 hz2 rfl (by decide) _ (4) _ rfl HOW.out ua.heap.size An 4 cn (ints .u8 (byts (lowB 4 r))) rfl HRA.out (ints_one _ _) (by unfold maxLen; omega) (by omega) HBS.out ?_; intro vv v1 hown1 hg1 _; have hbel := below_row hg1 (fun jj hjj => own_block_ge HOW.out hjj) HBS.out; rw [← ints_append, ← byts_append] at hown1; replace HOW := hide hown1; replace HMB := hide (HMB.out.below hbel (by omega)); replace HO := hide (only_below HO.out hbel (by omega)); replace HBS := hide (Nat.le_trans HBS.out hbel.size); clear hown1 hg1 hbel HRA))
  obtain ⟨A1, c1, rfl, _, _⟩ := own_form HOW.out
  have m0 := HMB.out.cell 0; have m1 := HMB.out.cell 1; have m2 := HMB.out.cell 2; have m3 := HMB.out.cell 3
  simp at m0 m1 m2 m3
  have m4 := HMB.out.cell 4; have m5 := HMB.out.cell 5; have m6 := HMB.out.cell 6; have m7 := HMB.out.cell 7; have m8 := HMB.out.cell 8; have m9 := HMB.out.cell 9; have m10 := HMB.out.cell 10; have m11 := HMB.out.cell 11; have m12 := HMB.out.cell 12
  simp at m4 m5 m6 m7 m8 m9 m10 m11 m12
  go_upto_region 10 with (go_at_call 42; refine (HTR.out _).mono ?_; rintro e vt ⟨g, rfl, hg, hb, ho⟩; have HTB := hide (show Blk vt g 9 #[.string x8, .string x9] from hb); replace HOW := hide (own_only HOW.out ho (by simp)); replace HO := hide (HO.out.trans ho); replace HBS := hide (Nat.le_trans HBS.out ho.size); have HRW := hide (show Rd vt [] (.slice (some ⟨g, 0, none⟩) 2 2) (strc [x8, x9]) from blk_strs hb [] (by simp) (by unfold maxLen; show 2 ≤ _; omega)); have HGB := hide hg; clear hg hb ho m0 m1 m2 m3 m4 m5 m6 m7 m8 m9 m10 m11 m12)
  refine wp_loop_rounds 3 ?_
  rw [rounds_succ]
  have cj := HTB.out.cell 0; simp at cj
  have hwj : IntKind.u64.wrap (x8.size : Int) = x8.size := by rw [IntKind.wrap_u64]; omega
  go_upto_region 13 with (first | (go_at_call 76; refine (numberR_any _ x8.size 2 (by omega) (by omega)).mono ?_; rintro e ua ⟨va, rfl, hrd, ho⟩; obtain ⟨An, cn, hva, _, _⟩ := hrd.formb; rw [lowB_length] at hva; subst hva; have HRA := hide hrd.reads; replace HOW := hide (own_only HOW.out ho (by simp)); replace HTB := hide (HTB.out.only ho (by simp)); replace HO := hide (HO.out.trans ho); replace HBS := hide (Nat.le_trans HBS.out ho.size); clear ho hrd) | (at_builtin; refine wpList_append_any _ rfl (.tmp 44) (.tmp 51) 30 rfl (w.heap.size + 1) 5 i0 (.int .u8 0) 1 1 Tryd.underlying30 hi hz0 hz1 hz2 rfl (by decide) _ (4 + 4) _ rfl HOW.out ua.heap.size An 2 cn (ints .u8 (byts (lowB 2 x8.size))) rfl HRA.out (ints_one _ _) (by unfold maxLen; omega) (by omega) HBS.out ?_; intro vv wa0 hown1 hg1 _; have hbel := below_row hg1 (fun jj hjj => own_block_ge HOW.out hjj) HBS.out; rw [← ints_append, ← byts_append] at hown1; have HOW0 := HOW; replace HOW := hide hown1; replace HTB := hide (HTB.out.grown hg1 (own_ne HOW0.out HTB.out (by decide))); replace HO := hide (only_below HO.out hbel (by omega)); replace HBS := hide (Nat.le_trans HBS.out hbel.size); clear hown1 hg1 hbel HRA))
  obtain ⟨B0, d0, rfl, _, _⟩ := own_form HOW.out
  clear cj
  have cj := HTB.out.cell 0; simp at cj
  go_wp2_with (at_builtin; refine Lib.wpList_append_own_string _ rfl _ _ 30 9 rfl (w.heap.size + 1) 5 i0 Tryd.underlying30 Tryd.underlying9 hi hz0 hz1 hz2 _ (4 + 4 + 2) _ rfl HOW.out x8 rfl (by unfold maxLen; omega) (by omega) HBS.out ?_; intro vv wb0 hown1 hg1 _; have hbel := below_row hg1 (fun jj hjj => own_block_ge HOW.out hjj) HBS.out; rw [str_cells, ← ints_append, ← byts_append] at hown1; have HOW0 := HOW; replace HOW := hide hown1; replace HTB := hide (HTB.out.grown hg1 (own_ne HOW0.out HTB.out (by decide))); replace HO := hide (only_below HO.out hbel (by omega)); replace HBS := hide (Nat.le_trans HBS.out hbel.size); clear hown1 hg1 hbel HOW0)
  obtain ⟨E0, f0, rfl, _, _⟩ := own_form HOW.out
  clear cj hwj
  rw [rounds_succ]
  have cj := HTB.out.cell 1; simp at cj
  have hwj : IntKind.u64.wrap (x9.size : Int) = x9.size := by rw [IntKind.wrap_u64]; omega
  go_upto_region 13 with (first | (go_at_call 76; refine (numberR_any _ x9.size 2 (by omega) (by omega)).mono ?_; rintro e ua ⟨va, rfl, hrd, ho⟩; obtain ⟨An, cn, hva, _, _⟩ := hrd.formb; rw [lowB_length] at hva; subst hva; have HRA := hide hrd.reads; replace HOW := hide (own_only HOW.out ho (by simp)); replace HTB := hide (HTB.out.only ho (by simp)); replace HO := hide (HO.out.trans ho); replace HBS := hide (Nat.le_trans HBS.out ho.size); clear ho hrd) | (at_builtin; refine wpList_append_any _ rfl (.tmp 44) (.tmp 51) 30 rfl (w.heap.size + 1) 5 i0 (.int .u8 0) 1 1 Tryd.underlying30 hi hz0 hz1 hz2 rfl (by decide) _ (4 + 4 + 2 + x8.size) _ rfl HOW.out ua.heap.size An 2 cn (ints .u8 (byts (lowB 2 x9.size))) rfl HRA.out (ints_one _ _) (by unfold maxLen; omega) (by omega) HBS.out ?_; intro vv wa1 hown1 hg1 _; have hbel := below_row hg1 (fun jj hjj => own_block_ge HOW.out hjj) HBS.out; rw [← ints_append, ← byts_append] at hown1; have HOW0 := HOW; replace HOW := hide hown1; replace HTB := hide (HTB.out.grown hg1 (own_ne HOW0.out HTB.out (by decide))); replace HO := hide (only_below HO.out hbel (by omega)); replace HBS := hide (Nat.le_trans HBS.out hbel.size); clear hown1 hg1 hbel HRA))
  obtain ⟨B1, d1, rfl, _, _⟩ := own_form HOW.out
  clear cj
  have cj := HTB.out.cell 1; simp at cj
  go_wp2_with (at_builtin; refine Lib.wpList_append_own_string _ rfl _ _ 30 9 rfl (w.heap.size + 1) 5 i0 Tryd.underlying30 Tryd.underlying9 hi hz0 hz1 hz2 _ (4 + 4 + 2 + x8.size + 2) _ rfl HOW.out x9 rfl (by unfold maxLen; omega) (by omega) HBS.out ?_; intro vv wb1 hown1 hg1 _; have hbel := below_row hg1 (fun jj hjj => own_block_ge HOW.out hjj) HBS.out; rw [str_cells, ← ints_append, ← byts_append] at hown1; have HOW0 := HOW; replace HOW := hide hown1; replace HTB := hide (HTB.out.grown hg1 (own_ne HOW0.out HTB.out (by decide))); replace HO := hide (only_below HO.out hbel (by omega)); replace HBS := hide (Nat.le_trans HBS.out hbel.size); clear hown1 hg1 hbel HOW0)
  obtain ⟨E1, f1, rfl, _, _⟩ := own_form HOW.out
  clear cj hwj
  rw [rounds_succ]
  go_wp2_with fail
  go_ret
  exact ⟨_, rfl, (Rd.of_own (N := []) HOW.out (by simp)).1, HO.out⟩
end
end Go.Proofs.YtfmfnfmhknlpbaaDoor

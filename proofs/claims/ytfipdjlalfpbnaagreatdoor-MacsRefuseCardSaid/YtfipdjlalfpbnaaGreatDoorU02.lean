/-
  Walks and plain words (texts Ms5). No condition beyond those that each theorem states.
-/
import Derived.Test.YtfipdjlalfpbnaaGreatDoorM35
namespace Go.Proofs.YtfipdjlalfpbnaaGreatDoor
section
open Go.RowKit Go.Deep

/-- A refusal, of the number's text and the sealed cookie. -/
def refM (s : Nat) (nb sx : ByteArray) : Mg := ⟨3, 0, s, 0, noT, noT, noT, noT, nb, sx, noT, noT, noT⟩
noncomputable def sealJ (n : Nat) (p c x : ByteArray) : ByteArray := makeV 10 n [] [jarT p, c, x]
def okRef (m : Mg) (p c : ByteArray) : Bool := startsM m && (decide (kindT p = 5) && decide (kindT c ≠ 0))
noncomputable def refuseV (m : Mg) (p c : ByteArray) (n : Nat) : Int × Mg := if okRef m p c = true then (if rightM (refM m.s (numT n) (sealJ n p c m.x11)) = true then (0, refM m.s (numT n) (sealJ n p c m.x11)) else (5, zeroG)) else (3, zeroG)
theorem ref_fine {s : Nat} {nb sx : ByteArray} (hs : s < 4294967296) (h1 : nb.size ≤ maxLen) (h2 : sx.size ≤ maxLen) : (refM s nb sx).Fine := by
  have n0 : noT.size ≤ maxLen := Nat.zero_le _
  exact ⟨by show 0 < _; omega, hs, by show 0 < _; omega, n0, n0, n0, n0, h1, h2, n0, n0, n0⟩
theorem seal_size (n : Nat) (hn : n < 18446744073709551616) (p c x : ByteArray) : (sealJ n p c x).size ≤ maxLen := make_size' _ _ _ _ hn
theorem ms_num_size (n : Nat) (hn : n < 18446744073709551616) : (numT n).size ≤ maxLen := make_size' _ _ _ _ hn
set_option maxRecDepth 100000 in
set_option maxHeartbeats 12800000 in
theorem Refuse_any (w : World) (m : Mg) (p c2 : ByteArray) (n : Nat) (hF : m.Fine) (hk0 : -9223372036854775808 ≤ m.k) (hp : p.size ≤ maxLen) (hc : c2.size ≤ maxLen) (hn : n < 18446744073709551616) (htab : Tab w) : Calls Tryz.prog 23 #[.agg m.cells, .string p, .string c2, .int .u64 (n : Nat)] w (SignPost (refuseV m p c2 n) w) := by
  have HV1 := hide (fun (h : okRef m p c2 = false) => show refuseV m p c2 n = (3, zeroG) by unfold refuseV; rw [if_neg (by rw [h]; decide)])
  obtain ⟨nb, e_nb⟩ : ∃ x, numT n = x := ⟨_, rfl⟩
  obtain ⟨sx, e_sx⟩ : ∃ x, sealJ n p c2 m.x11 = x := ⟨_, rfl⟩
  have z_nb : nb.size ≤ maxLen := e_nb ▸ ms_num_size n hn
  have z_sx : sx.size ≤ maxLen := e_sx ▸ seal_size n hn _ _ _
  have HV2 := hide (fun (h : okRef m p c2 = true) => show refuseV m p c2 n = if rightM (refM m.s nb sx) = true then (0, refM m.s nb sx) else (5, zeroG) by unfold refuseV; rw [if_pos h, e_nb, e_sx])
  have HST := hide (fun W => starts_any W m hF hk0)
  have KP := hide (fun W => Kind_any W p hp)
  have KC := hide (fun W => Kind_any W c2 hc)
  unfold RetB at HST
  unfold KindPost at KP KC
  have KN := hide (fun W h => Make_any 3 (by decide) n hn (.slice none 0 0) (.slice none 0 0) [] [] (by simp) W (Rd.nil _ _) (Rd.nil _ _) h)
  rw [show makeV 3 n [] [] = nb from e_nb] at KN
  have KJ := hide (fun W ht => jar_any W p hp ht)
  unfold MakePost at KN KJ
  have HPS := hide (show ∀ q ∈ [jarT p, c2, m.x11], q.size ≤ maxLen by
    intro q hq
    simp at hq
    rcases hq with rfl | rfl | rfl
    · exact jar_size _
    · exact hc
    · exact hF.x11)
  have HSX := hide (show makeV 10 n [] [jarT p, c2, m.x11] = sx from e_sx)
  have HTM := hide (fun W => Terms_any W (refM m.s nb sx) (ref_fine hF.s z_nb z_sx))
  unfold TermsPost at HTM
  have HTX := hide (show (textsM (refM m.s nb sx)).length = 2 from rfl)
  obtain ⟨rr, hrr⟩ : ∃ q, rightM (refM m.s nb sx) = q := ⟨_, rfl⟩
  rw [hrr] at HTM HV2
  obtain ⟨tl, htl⟩ : ∃ q, textsM (refM m.s nb sx) = q := ⟨_, rfl⟩
  rw [htl] at HTM HTX
  have HCS := hide (show (refM m.s nb sx).cells = #[.int .i64 3, .int .u32 0, .int .u32 (m.s : Nat), .int .u64 0, .string ⟨#[]⟩, .string ⟨#[]⟩, .string ⟨#[]⟩, .string ⟨#[]⟩, .string nb, .string sx, .string ⟨#[]⟩, .string ⟨#[]⟩, .string ⟨#[]⟩] from rfl)
  rw [HCS.out] at HTM
  have HNW := hide hn
  have HOK := hide (show okRef m p c2 = (startsM m && (decide (kindT p = 5) && decide (kindT c2 ≠ 0))) from rfl)
  clear e_nb e_sx z_nb z_sx hrr htl
  generalize refuseV m p c2 n = res at *
  generalize okRef m p c2 = ok at *
  generalize startsM m = sm at *
  generalize kindT p = kp at *
  generalize kindT c2 = kc at *
  generalize jarT p = jp at *
  obtain ⟨k, s, r, c, x4, x5, x6, x7, x8, x9, x10, x11, x12⟩ := m
  unfold Mg.cells at HST ⊢
  simp only at HST HTM HV2 HCS HPS HSX ⊢
  have HMB := hide ((Blk.new w 25 #[.int .i64 k, .int .u32 (s : Nat), .int .u32 (r : Nat), .int .u64 (c : Nat), .string x4, .string x5, .string x6, .string x7, .string x8, .string x9, .string x10, .string x11, .string x12]).alloc (.cells #[.int .i64 0, .int .u32 0, .int .u32 0, .int .u64 0, .string ⟨#[]⟩, .string ⟨#[]⟩, .string ⟨#[]⟩, .string ⟨#[]⟩, .string ⟨#[]⟩, .string ⟨#[]⟩, .string ⟨#[]⟩, .string ⟨#[]⟩, .string ⟨#[]⟩] 25))
  have HRB := hide (Blk.new (w.alloc (.cells #[.int .i64 k, .int .u32 (s : Nat), .int .u32 (r : Nat), .int .u64 (c : Nat), .string x4, .string x5, .string x6, .string x7, .string x8, .string x9, .string x10, .string x11, .string x12] 25)) 25 #[.int .i64 0, .int .u32 0, .int .u32 0, .int .u64 0, .string ⟨#[]⟩, .string ⟨#[]⟩, .string ⟨#[]⟩, .string ⟨#[]⟩, .string ⟨#[]⟩, .string ⟨#[]⟩, .string ⟨#[]⟩, .string ⟨#[]⟩, .string ⟨#[]⟩])
  rw [World.size_alloc] at HRB
  have HO := hide (((Only.refl [] w).alloc (.cells #[.int .i64 k, .int .u32 (s : Nat), .int .u32 (r : Nat), .int .u64 (c : Nat), .string x4, .string x5, .string x6, .string x7, .string x8, .string x9, .string x10, .string x11, .string x12] 25)).alloc (.cells #[.int .i64 0, .int .u32 0, .int .u32 0, .int .u64 0, .string ⟨#[]⟩, .string ⟨#[]⟩, .string ⟨#[]⟩, .string ⟨#[]⟩, .string ⟨#[]⟩, .string ⟨#[]⟩, .string ⟨#[]⟩, .string ⟨#[]⟩, .string ⟨#[]⟩] 25))
  have HT := hide (htab.only HO.out (by simp))
  clear htab hF hk0 hp hc hn
  go_enter Tryz.func23, Tryz.ntmps23
  go_upto_region 1 with fail
  generalize ((w.alloc (.cells #[.int .i64 k, .int .u32 (s : Nat), .int .u32 (r : Nat), .int .u64 (c : Nat), .string x4, .string x5, .string x6, .string x7, .string x8, .string x9, .string x10, .string x11, .string x12] 25)).alloc (.cells #[.int .i64 0, .int .u32 0, .int .u32 0, .int .u64 0, .string ⟨#[]⟩, .string ⟨#[]⟩, .string ⟨#[]⟩, .string ⟨#[]⟩, .string ⟨#[]⟩, .string ⟨#[]⟩, .string ⟨#[]⟩, .string ⟨#[]⟩, .string ⟨#[]⟩] 25)) = v0 at *
  obtain ⟨m0, m1, m2, m3, m4, m5, m6, m7, m8, m9, m10, m11, m12⟩ := cells13 HMB.out
  have r0 := HRB.out.cell 0; have r1 := HRB.out.cell 1; have r2 := HRB.out.cell 2; have r3 := HRB.out.cell 3; have r4 := HRB.out.cell 4; have r5 := HRB.out.cell 5; have r6 := HRB.out.cell 6; have r7 := HRB.out.cell 7; have r8 := HRB.out.cell 8; have r9 := HRB.out.cell 9; have r10 := HRB.out.cell 10; have r11 := HRB.out.cell 11; have r12 := HRB.out.cell 12; simp at r0 r1 r2 r3 r4 r5 r6 r7 r8 r9 r10 r11 r12; have rf := HRB.out.frozen
  cases sm with
  | false =>
    have HV := hide (HV1.out (by rw [HOK.out]; rfl))
    clear KN KJ HPS HSX HTM HTX HCS HNW HV2 HV1 HOK
    go_wp2_with (first
      | (go_at_call 50; refine (HST.out _).mono ?_; rintro e2 x1 ⟨rfl, ho⟩; replace HMB := hide (HMB.out.only ho (by simp)); replace HRB := hide (HRB.out.only ho (by simp)); replace HT := hide (HT.out.only ho (by simp)); replace HO := hide (HO.out.trans ho); clear ho m0 m1 m2 m3 m4 m5 m6 m7 m8 m9 m10 m11 m12 r0 r1 r2 r3 r4 r5 r6 r7 r8 r9 r10 r11 r12 rf; obtain ⟨m0, m1, m2, m3, m4, m5, m6, m7, m8, m9, m10, m11, m12⟩ := cells13 HMB.out; have r0 := HRB.out.cell 0; have r1 := HRB.out.cell 1; have r2 := HRB.out.cell 2; have r3 := HRB.out.cell 3; have r4 := HRB.out.cell 4; have r5 := HRB.out.cell 5; have r6 := HRB.out.cell 6; have r7 := HRB.out.cell 7; have r8 := HRB.out.cell 8; have r9 := HRB.out.cell 9; have r10 := HRB.out.cell 10; have r11 := HRB.out.cell 11; have r12 := HRB.out.cell 12; simp at r0 r1 r2 r3 r4 r5 r6 r7 r8 r9 r10 r11 r12; have rf := HRB.out.frozen))
    refine bodyPost_ret (results_cell_two rfl _ _ (w.heap.size + 1) 25 _ (0, 0) _ rfl (set13 HRB.out (.int .i64 0) (.int .u32 0) (.int .u32 0) (.int .u64 0) (.string ⟨#[]⟩) (.string ⟨#[]⟩) (.string ⟨#[]⟩) (.string ⟨#[]⟩) (.string ⟨#[]⟩) (.string ⟨#[]⟩) (.string ⟨#[]⟩) (.string ⟨#[]⟩) (.string ⟨#[]⟩)) Tryz.underlying25 rfl (by kernel_rfl)) rfl ?_
    exact signpost (HV.out) (only13 HO.out (.inr (by omega)) (.int .i64 0) (.int .u32 0) (.int .u32 0) (.int .u64 0) (.string ⟨#[]⟩) (.string ⟨#[]⟩) (.string ⟨#[]⟩) (.string ⟨#[]⟩) (.string ⟨#[]⟩) (.string ⟨#[]⟩) (.string ⟨#[]⟩) (.string ⟨#[]⟩) (.string ⟨#[]⟩))
  | true =>
    by_cases hp5 : kp = 5
    · by_cases hc0 : kc = 0
      · have e2 : (kp != 5) = false := by rw [bne_eq_false_iff_eq]; exact hp5
        have e4 : (kc == 0) = true := by rw [beq_iff_eq]; exact hc0
        have HV := hide (HV1.out (by rw [HOK.out]; rw [show decide (kc ≠ 0) = false from decide_eq_false (fun h => h hc0)]; cases decide (kp = 5) <;> rfl))
        clear KN KJ HPS HSX HTM HTX HCS HNW HV2 HV1 HOK
        go_wp2_with (first
          | (go_at_call 50; refine (HST.out _).mono ?_; rintro e2 x1 ⟨rfl, ho⟩; replace HMB := hide (HMB.out.only ho (by simp)); replace HRB := hide (HRB.out.only ho (by simp)); replace HT := hide (HT.out.only ho (by simp)); replace HO := hide (HO.out.trans ho); clear ho m0 m1 m2 m3 m4 m5 m6 m7 m8 m9 m10 m11 m12 r0 r1 r2 r3 r4 r5 r6 r7 r8 r9 r10 r11 r12 rf; obtain ⟨m0, m1, m2, m3, m4, m5, m6, m7, m8, m9, m10, m11, m12⟩ := cells13 HMB.out; have r0 := HRB.out.cell 0; have r1 := HRB.out.cell 1; have r2 := HRB.out.cell 2; have r3 := HRB.out.cell 3; have r4 := HRB.out.cell 4; have r5 := HRB.out.cell 5; have r6 := HRB.out.cell 6; have r7 := HRB.out.cell 7; have r8 := HRB.out.cell 8; have r9 := HRB.out.cell 9; have r10 := HRB.out.cell 10; have r11 := HRB.out.cell 11; have r12 := HRB.out.cell 12; simp at r0 r1 r2 r3 r4 r5 r6 r7 r8 r9 r10 r11 r12; have rf := HRB.out.frozen)
          | (go_at_call 51; (with_reducible refine (KP.out _).mono ?_); rintro e2 x2 ⟨rfl, ho⟩; replace HMB := hide (HMB.out.only ho (by simp)); replace HRB := hide (HRB.out.only ho (by simp)); replace HT := hide (HT.out.only ho (by simp)); replace HO := hide (HO.out.trans ho); clear ho m0 m1 m2 m3 m4 m5 m6 m7 m8 m9 m10 m11 m12 r0 r1 r2 r3 r4 r5 r6 r7 r8 r9 r10 r11 r12 rf; obtain ⟨m0, m1, m2, m3, m4, m5, m6, m7, m8, m9, m10, m11, m12⟩ := cells13 HMB.out; have r0 := HRB.out.cell 0; have r1 := HRB.out.cell 1; have r2 := HRB.out.cell 2; have r3 := HRB.out.cell 3; have r4 := HRB.out.cell 4; have r5 := HRB.out.cell 5; have r6 := HRB.out.cell 6; have r7 := HRB.out.cell 7; have r8 := HRB.out.cell 8; have r9 := HRB.out.cell 9; have r10 := HRB.out.cell 10; have r11 := HRB.out.cell 11; have r12 := HRB.out.cell 12; simp at r0 r1 r2 r3 r4 r5 r6 r7 r8 r9 r10 r11 r12; have rf := HRB.out.frozen)
          | (go_at_call 51; (with_reducible refine (KC.out _).mono ?_); rintro e2 x3 ⟨rfl, ho⟩; replace HMB := hide (HMB.out.only ho (by simp)); replace HRB := hide (HRB.out.only ho (by simp)); replace HT := hide (HT.out.only ho (by simp)); replace HO := hide (HO.out.trans ho); clear ho m0 m1 m2 m3 m4 m5 m6 m7 m8 m9 m10 m11 m12 r0 r1 r2 r3 r4 r5 r6 r7 r8 r9 r10 r11 r12 rf; obtain ⟨m0, m1, m2, m3, m4, m5, m6, m7, m8, m9, m10, m11, m12⟩ := cells13 HMB.out; have r0 := HRB.out.cell 0; have r1 := HRB.out.cell 1; have r2 := HRB.out.cell 2; have r3 := HRB.out.cell 3; have r4 := HRB.out.cell 4; have r5 := HRB.out.cell 5; have r6 := HRB.out.cell 6; have r7 := HRB.out.cell 7; have r8 := HRB.out.cell 8; have r9 := HRB.out.cell 9; have r10 := HRB.out.cell 10; have r11 := HRB.out.cell 11; have r12 := HRB.out.cell 12; simp at r0 r1 r2 r3 r4 r5 r6 r7 r8 r9 r10 r11 r12; have rf := HRB.out.frozen))
        refine bodyPost_ret (results_cell_two rfl _ _ (w.heap.size + 1) 25 _ (0, 0) _ rfl (set13 HRB.out (.int .i64 0) (.int .u32 0) (.int .u32 0) (.int .u64 0) (.string ⟨#[]⟩) (.string ⟨#[]⟩) (.string ⟨#[]⟩) (.string ⟨#[]⟩) (.string ⟨#[]⟩) (.string ⟨#[]⟩) (.string ⟨#[]⟩) (.string ⟨#[]⟩) (.string ⟨#[]⟩)) Tryz.underlying25 rfl (by kernel_rfl)) rfl ?_
        exact signpost (HV.out) (only13 HO.out (.inr (by omega)) (.int .i64 0) (.int .u32 0) (.int .u32 0) (.int .u64 0) (.string ⟨#[]⟩) (.string ⟨#[]⟩) (.string ⟨#[]⟩) (.string ⟨#[]⟩) (.string ⟨#[]⟩) (.string ⟨#[]⟩) (.string ⟨#[]⟩) (.string ⟨#[]⟩) (.string ⟨#[]⟩))
      · have HV := hide (HV2.out (by rw [HOK.out, decide_eq_true hp5, decide_eq_true hc0]; rfl))
        have e2 : (kp != 5) = false := by rw [bne_eq_false_iff_eq]; exact hp5
        have e4 : (kc == 0) = false := by rw [beq_eq_false_iff_ne]; exact hc0
        clear hp5 hc0 HV1 HV2 HOK
        go_upto_region 3 with (first
          | (go_at_call 50; refine (HST.out _).mono ?_; rintro e2 x1 ⟨rfl, ho⟩; replace HMB := hide (HMB.out.only ho (by simp)); replace HRB := hide (HRB.out.only ho (by simp)); replace HT := hide (HT.out.only ho (by simp)); replace HO := hide (HO.out.trans ho); clear ho m0 m1 m2 m3 m4 m5 m6 m7 m8 m9 m10 m11 m12 r0 r1 r2 r3 r4 r5 r6 r7 r8 r9 r10 r11 r12 rf; obtain ⟨m0, m1, m2, m3, m4, m5, m6, m7, m8, m9, m10, m11, m12⟩ := cells13 HMB.out; have r0 := HRB.out.cell 0; have r1 := HRB.out.cell 1; have r2 := HRB.out.cell 2; have r3 := HRB.out.cell 3; have r4 := HRB.out.cell 4; have r5 := HRB.out.cell 5; have r6 := HRB.out.cell 6; have r7 := HRB.out.cell 7; have r8 := HRB.out.cell 8; have r9 := HRB.out.cell 9; have r10 := HRB.out.cell 10; have r11 := HRB.out.cell 11; have r12 := HRB.out.cell 12; simp at r0 r1 r2 r3 r4 r5 r6 r7 r8 r9 r10 r11 r12; have rf := HRB.out.frozen)
          | (go_at_call 51; (with_reducible refine (KP.out _).mono ?_); rintro e2 x2 ⟨rfl, ho⟩; replace HMB := hide (HMB.out.only ho (by simp)); replace HRB := hide (HRB.out.only ho (by simp)); replace HT := hide (HT.out.only ho (by simp)); replace HO := hide (HO.out.trans ho); clear ho m0 m1 m2 m3 m4 m5 m6 m7 m8 m9 m10 m11 m12 r0 r1 r2 r3 r4 r5 r6 r7 r8 r9 r10 r11 r12 rf; obtain ⟨m0, m1, m2, m3, m4, m5, m6, m7, m8, m9, m10, m11, m12⟩ := cells13 HMB.out; have r0 := HRB.out.cell 0; have r1 := HRB.out.cell 1; have r2 := HRB.out.cell 2; have r3 := HRB.out.cell 3; have r4 := HRB.out.cell 4; have r5 := HRB.out.cell 5; have r6 := HRB.out.cell 6; have r7 := HRB.out.cell 7; have r8 := HRB.out.cell 8; have r9 := HRB.out.cell 9; have r10 := HRB.out.cell 10; have r11 := HRB.out.cell 11; have r12 := HRB.out.cell 12; simp at r0 r1 r2 r3 r4 r5 r6 r7 r8 r9 r10 r11 r12; have rf := HRB.out.frozen)
          | (go_at_call 51; (with_reducible refine (KC.out _).mono ?_); rintro e2 x3 ⟨rfl, ho⟩; replace HMB := hide (HMB.out.only ho (by simp)); replace HRB := hide (HRB.out.only ho (by simp)); replace HT := hide (HT.out.only ho (by simp)); replace HO := hide (HO.out.trans ho); clear ho m0 m1 m2 m3 m4 m5 m6 m7 m8 m9 m10 m11 m12 r0 r1 r2 r3 r4 r5 r6 r7 r8 r9 r10 r11 r12 rf; obtain ⟨m0, m1, m2, m3, m4, m5, m6, m7, m8, m9, m10, m11, m12⟩ := cells13 HMB.out; have r0 := HRB.out.cell 0; have r1 := HRB.out.cell 1; have r2 := HRB.out.cell 2; have r3 := HRB.out.cell 3; have r4 := HRB.out.cell 4; have r5 := HRB.out.cell 5; have r6 := HRB.out.cell 6; have r7 := HRB.out.cell 7; have r8 := HRB.out.cell 8; have r9 := HRB.out.cell 9; have r10 := HRB.out.cell 10; have r11 := HRB.out.cell 11; have r12 := HRB.out.cell 12; simp at r0 r1 r2 r3 r4 r5 r6 r7 r8 r9 r10 r11 r12; have rf := HRB.out.frozen))
        rename World => v3
        clear HST KP KC
        clear m0 m1 m2 m3 m4 m5 m6 m7 m8 m9 m10 m11 m12 r0 r1 r2 r3 r4 r5 r6 r7 r8 r9 r10 r11 r12 rf
        go_cut [10] (fun pv w' => ∃ m2, pv = .pointer (some ⟨m2, 0, none⟩) ∧ v3.heap.size ≤ m2 ∧ Hid (Blk w' m2 25 #[.int .i64 3, .int .u32 0, .int .u32 (s : Nat), .int .u64 0, .string ⟨#[]⟩, .string ⟨#[]⟩, .string ⟨#[]⟩, .string ⟨#[]⟩, .string nb, .string sx, .string ⟨#[]⟩, .string ⟨#[]⟩, .string ⟨#[]⟩]) ∧ Hid (Only [] v3 w'))
        case first =>
          rename_i JJ KK hJJ hKK
          refine wp_region_held_drew (S := fun W => Only [] v3 W) (by kernel_rfl) (by exact (Only.refl [] v3).drew) (fun hHeld => ?_); generalize v3.drew = wd3 at *
          refine tk 0 ?_; refine tk 1 ?_ (hy := by (intro w hSw; (try dsimp only at hSw); have HMw := HMB.out.only hSw (by simp); obtain ⟨-, m1, -⟩ := cells13 HMw; clear HMw; go_simp; try with_reducible rfl)); refine tk 2 ?_; refine tk 4 ?_
          refine tk 5 ?_; refine tk 7 ?_; refine tk 8 ?_
          refine tk 9 ?_ (hy := by (intro w hSw; (try dsimp only at hSw); have HMw := HMB.out.only hSw (by simp); obtain ⟨-, -, -, -, -, -, -, -, -, -, -, m11, -⟩ := cells13 HMw; clear HMw; go_simp; try with_reducible rfl))
          refine wpAnyH_ready (rs := [3, 13]) (by kernel_rfl) (by simp) ?_; refine (AllReadyH.cons rfl (fun K hK => ?_) (AllReadyH.cons rfl (fun K hK => ?_) AllReadyH.nil))
          · go_simp; (go_at_call 66; refine (KN.out _ (HT.out.only hHeld (by simp))).mono ?_; rintro e2 w3 ⟨rfl, ho⟩)
            refine hK.out _ _ (by first | exact hHeld.trans ho | exact hHeld.trans (ho.mono (by simp))) (fun hN => ?_); clear hK K ho hHeld; have hHeld := hN; clear hN; (try simp only [zsa, zsb, zsc, Act.put, zsd, zse, zsf])
            refine wpAnyH_ready (rs := [6, 13]) (by kernel_rfl) (by simp) ?_; refine (AllReadyH.cons rfl (fun K hK => ?_) (AllReadyH.cons rfl (fun K hK => ?_) AllReadyH.nil))
            · go_simp; (go_at_call 64; refine (KJ.out _ (HT.out.only hHeld (by simp))).mono ?_; rintro e2 w6 ⟨rfl, ho⟩)
              refine hK.out _ _ (by first | exact hHeld.trans ho | exact hHeld.trans (ho.mono (by simp))) (fun hN => ?_); clear hK K ho hHeld; have hHeld := hN; clear hN; (try simp only [zsa, zsb, zsc, Act.put, zsd, zse, zsf])
              refine wpAnyH_ready (rs := [10, 13]) (by kernel_rfl) (by simp) ?_; refine (AllReadyH.cons rfl (fun K hK => ?_) (AllReadyH.cons rfl (fun K hK => ?_) AllReadyH.nil))
              · go_simp; refine hK.out _ _ (by exact hHeld.alloc _) (fun hN => ?_); clear hK K hHeld; have hHeld := hN; clear hN; (try simp only [zsa, zsb, zsc, Act.put, zsd, zse, zsf])
                have HRD := hide (show Rd (w6.alloc (.cells #[.string jp, .string c2, .string x11] 9)) [] (.slice (some ⟨w6.heap.size, 0, none⟩) 3 3) (strs [jp, c2, x11]) from rd_new w6 9 [] (strs [jp, c2, x11]) (by simp) (by unfold maxLen; show 3 ≤ _; omega))
                generalize (w6.alloc (.cells #[.string jp, .string c2, .string x11] 9)) = w10 at *
                refine wpAnyH_ready (rs := [11, 13]) (by kernel_rfl) (by simp) ?_; refine (AllReadyH.cons rfl (fun K hK => ?_) (AllReadyH.cons rfl (fun K hK => ?_) AllReadyH.nil))
                · go_simp
                  (go_at_call 66; refine (Make_any 10 (by decide) n HNW.out _ _ [] [jp, c2, x11] HPS.out w10 (Rd.nil _ _) HRD.out (HT.out.only hHeld (by simp))).mono ?_; rw [HSX.out]; rintro e2 w11 ⟨rfl, ho⟩; replace HRD := hide (HRD.out.only ho (by simp)))
                  refine hK.out _ _ (by first | exact hHeld.trans ho | exact hHeld.trans (ho.mono (by simp))) (fun hN => ?_); clear hK K ho hHeld; have hHeld := hN; clear hN; (try simp only [zsa, zsb, zsc, Act.put, zsd, zse, zsf])
                  refine tk 12 ?_; refine wpAnyH_ready (rs := [13]) (by kernel_rfl) (by simp) ?_; refine (AllReadyH.cons rfl (fun K hK => ?_) AllReadyH.nil); go_simp; have HNS := hide hHeld.size
                  refine hK.out _ _ (by exact hHeld.alloc _) (fun hN => ?_); clear hK K hHeld; have hHeld := hN; clear hN; (try simp only [zsa, zsb, zsc, Act.put, zsd, zse, zsf])
                  replace HRD := hide (HRD.out.only ((Only.refl [] w11).alloc (.cells #[.int .i64 0, .int .u32 0, .int .u32 0, .int .u64 0, .string ⟨#[]⟩, .string ⟨#[]⟩, .string ⟨#[]⟩, .string ⟨#[]⟩, .string ⟨#[]⟩, .string ⟨#[]⟩, .string ⟨#[]⟩, .string ⟨#[]⟩, .string ⟨#[]⟩] 25)) (by simp))
                  have HNM := hide (Blk.new w11 25 #[.int .i64 0, .int .u32 0, .int .u32 0, .int .u64 0, .string ⟨#[]⟩, .string ⟨#[]⟩, .string ⟨#[]⟩, .string ⟨#[]⟩, .string ⟨#[]⟩, .string ⟨#[]⟩, .string ⟨#[]⟩, .string ⟨#[]⟩, .string ⟨#[]⟩])
                  generalize (w11.alloc (.cells #[.int .i64 0, .int .u32 0, .int .u32 0, .int .u64 0, .string ⟨#[]⟩, .string ⟨#[]⟩, .string ⟨#[]⟩, .string ⟨#[]⟩, .string ⟨#[]⟩, .string ⟨#[]⟩, .string ⟨#[]⟩, .string ⟨#[]⟩, .string ⟨#[]⟩] 25)) = w13 at *
                  refine wpAnyH_ready (rs := [14]) (by kernel_rfl) (by simp) ?_; refine (AllReadyH.cons rfl (fun K hK => ?_) AllReadyH.nil); rw [if_pos (by rfl)]
                  refine wp_store_mid _ _ _ rfl _ _ #[.int .i64 3, .int .u32 0, .int .u32 (s : Nat), .int .u64 0, .string ⟨#[]⟩, .string ⟨#[]⟩, .string ⟨#[]⟩, .string ⟨#[]⟩, .string nb, .string sx, .string ⟨#[]⟩, .string ⟨#[]⟩, .string ⟨#[]⟩] rfl rfl (blk_there HNM.out _ rfl) (by kernel_rfl) (by simp [Value.oneCell']) ?_
                  have HST2 := hide (show Blk (w13.setCells _ 0 [.int .i64 3, .int .u32 0, .int .u32 (s : Nat), .int .u64 0, .string ⟨#[]⟩, .string ⟨#[]⟩, .string ⟨#[]⟩, .string ⟨#[]⟩, .string nb, .string sx, .string ⟨#[]⟩, .string ⟨#[]⟩, .string ⟨#[]⟩]) _ 25 #[.int .i64 3, .int .u32 0, .int .u32 (s : Nat), .int .u64 0, .string ⟨#[]⟩, .string ⟨#[]⟩, .string ⟨#[]⟩, .string ⟨#[]⟩, .string nb, .string sx, .string ⟨#[]⟩, .string ⟨#[]⟩, .string ⟨#[]⟩] from blk_stored HNM.out [.int .i64 3, .int .u32 0, .int .u32 (s : Nat), .int .u64 0, .string ⟨#[]⟩, .string ⟨#[]⟩, .string ⟨#[]⟩, .string ⟨#[]⟩, .string nb, .string sx, .string ⟨#[]⟩, .string ⟨#[]⟩, .string ⟨#[]⟩] rfl)
                  refine hK.out _ _ (by exact only_stored hHeld HNS.out [.int .i64 3, .int .u32 0, .int .u32 (s : Nat), .int .u64 0, .string ⟨#[]⟩, .string ⟨#[]⟩, .string ⟨#[]⟩, .string ⟨#[]⟩, .string nb, .string sx, .string ⟨#[]⟩, .string ⟨#[]⟩, .string ⟨#[]⟩]) (fun hN => ?_)
                  clear hK K hHeld; have hHeld := hN; clear hN; (try simp only [zsa, zsb, zsc, Act.put])
                  refine wpAnyH_done (by kernel_rfl) ?_ _; dsimp only [Exit.then]; refine hKK _ _ ?_; go_meet; exact ⟨_, rfl, HNS.out, HST2, hide hHeld⟩
                · go_simp; have HNS := hide hHeld.size; refine hK.out _ _ (by exact hHeld.alloc _) (fun hN => ?_); clear hK K hHeld; have hHeld := hN; clear hN; (try simp only [zsa, zsb, zsc, Act.put, zsd, zse, zsf])
                  replace HRD := hide (HRD.out.only ((Only.refl [] w10).alloc (.cells #[.int .i64 0, .int .u32 0, .int .u32 0, .int .u64 0, .string ⟨#[]⟩, .string ⟨#[]⟩, .string ⟨#[]⟩, .string ⟨#[]⟩, .string ⟨#[]⟩, .string ⟨#[]⟩, .string ⟨#[]⟩, .string ⟨#[]⟩, .string ⟨#[]⟩] 25)) (by simp))
                  have HNM := hide (Blk.new w10 25 #[.int .i64 0, .int .u32 0, .int .u32 0, .int .u64 0, .string ⟨#[]⟩, .string ⟨#[]⟩, .string ⟨#[]⟩, .string ⟨#[]⟩, .string ⟨#[]⟩, .string ⟨#[]⟩, .string ⟨#[]⟩, .string ⟨#[]⟩, .string ⟨#[]⟩])
                  generalize (w10.alloc (.cells #[.int .i64 0, .int .u32 0, .int .u32 0, .int .u64 0, .string ⟨#[]⟩, .string ⟨#[]⟩, .string ⟨#[]⟩, .string ⟨#[]⟩, .string ⟨#[]⟩, .string ⟨#[]⟩, .string ⟨#[]⟩, .string ⟨#[]⟩, .string ⟨#[]⟩] 25)) = w13 at *
                  refine wpAnyH_ready (rs := [11]) (by kernel_rfl) (by simp) ?_; refine (AllReadyH.cons rfl (fun K hK => ?_) AllReadyH.nil); go_simp
                  (go_at_call 66; refine (Make_any 10 (by decide) n HNW.out _ _ [] [jp, c2, x11] HPS.out w13 (Rd.nil _ _) HRD.out (HT.out.only hHeld (by simp))).mono ?_; rw [HSX.out]; rintro e2 w11 ⟨rfl, ho⟩; replace HRD := hide (HRD.out.only ho (by simp)); replace HNM := hide (HNM.out.only ho (by simp)))
                  refine hK.out _ _ (by first | exact hHeld.trans ho | exact hHeld.trans (ho.mono (by simp))) (fun hN => ?_); clear hK K ho hHeld; have hHeld := hN; clear hN; (try simp only [zsa, zsb, zsc, Act.put, zsd, zse, zsf])
                  refine tk 12 ?_; refine wpAnyH_ready (rs := [14]) (by kernel_rfl) (by simp) ?_; refine (AllReadyH.cons rfl (fun K hK => ?_) AllReadyH.nil); rw [if_pos (by rfl)]
                  refine wp_store_mid _ _ _ rfl _ _ #[.int .i64 3, .int .u32 0, .int .u32 (s : Nat), .int .u64 0, .string ⟨#[]⟩, .string ⟨#[]⟩, .string ⟨#[]⟩, .string ⟨#[]⟩, .string nb, .string sx, .string ⟨#[]⟩, .string ⟨#[]⟩, .string ⟨#[]⟩] rfl rfl (blk_there HNM.out _ rfl) (by kernel_rfl) (by simp [Value.oneCell']) ?_
                  have HST2 := hide (show Blk (w11.setCells _ 0 [.int .i64 3, .int .u32 0, .int .u32 (s : Nat), .int .u64 0, .string ⟨#[]⟩, .string ⟨#[]⟩, .string ⟨#[]⟩, .string ⟨#[]⟩, .string nb, .string sx, .string ⟨#[]⟩, .string ⟨#[]⟩, .string ⟨#[]⟩]) _ 25 #[.int .i64 3, .int .u32 0, .int .u32 (s : Nat), .int .u64 0, .string ⟨#[]⟩, .string ⟨#[]⟩, .string ⟨#[]⟩, .string ⟨#[]⟩, .string nb, .string sx, .string ⟨#[]⟩, .string ⟨#[]⟩, .string ⟨#[]⟩] from blk_stored HNM.out [.int .i64 3, .int .u32 0, .int .u32 (s : Nat), .int .u64 0, .string ⟨#[]⟩, .string ⟨#[]⟩, .string ⟨#[]⟩, .string ⟨#[]⟩, .string nb, .string sx, .string ⟨#[]⟩, .string ⟨#[]⟩, .string ⟨#[]⟩] rfl)
                  refine hK.out _ _ (by exact only_stored hHeld HNS.out [.int .i64 3, .int .u32 0, .int .u32 (s : Nat), .int .u64 0, .string ⟨#[]⟩, .string ⟨#[]⟩, .string ⟨#[]⟩, .string ⟨#[]⟩, .string nb, .string sx, .string ⟨#[]⟩, .string ⟨#[]⟩, .string ⟨#[]⟩]) (fun hN => ?_)
                  clear hK K hHeld; have hHeld := hN; clear hN; (try simp only [zsa, zsb, zsc, Act.put])
                  refine wpAnyH_done (by kernel_rfl) ?_ _; dsimp only [Exit.then]; refine hKK _ _ ?_; go_meet; exact ⟨_, rfl, HNS.out, HST2, hide hHeld⟩
              · go_simp; have HNS := hide hHeld.size; refine hK.out _ _ (by exact hHeld.alloc _) (fun hN => ?_); clear hK K hHeld; have hHeld := hN; clear hN; (try simp only [zsa, zsb, zsc, Act.put, zsd, zse, zsf])
                have HNM := hide (Blk.new w6 25 #[.int .i64 0, .int .u32 0, .int .u32 0, .int .u64 0, .string ⟨#[]⟩, .string ⟨#[]⟩, .string ⟨#[]⟩, .string ⟨#[]⟩, .string ⟨#[]⟩, .string ⟨#[]⟩, .string ⟨#[]⟩, .string ⟨#[]⟩, .string ⟨#[]⟩])
                generalize (w6.alloc (.cells #[.int .i64 0, .int .u32 0, .int .u32 0, .int .u64 0, .string ⟨#[]⟩, .string ⟨#[]⟩, .string ⟨#[]⟩, .string ⟨#[]⟩, .string ⟨#[]⟩, .string ⟨#[]⟩, .string ⟨#[]⟩, .string ⟨#[]⟩, .string ⟨#[]⟩] 25)) = w13 at *
                refine wpAnyH_ready (rs := [10]) (by kernel_rfl) (by simp) ?_; refine (AllReadyH.cons rfl (fun K hK => ?_) AllReadyH.nil); go_simp; refine hK.out _ _ (by exact hHeld.alloc _) (fun hN => ?_); clear hK K hHeld; have hHeld := hN
                clear hN; (try simp only [zsa, zsb, zsc, Act.put, zsd, zse, zsf]); replace HNM := hide (HNM.out.alloc (.cells #[.string jp, .string c2, .string x11] 9))
                have HRD := hide (show Rd (w13.alloc (.cells #[.string jp, .string c2, .string x11] 9)) [] (.slice (some ⟨w13.heap.size, 0, none⟩) 3 3) (strs [jp, c2, x11]) from rd_new w13 9 [] (strs [jp, c2, x11]) (by simp) (by unfold maxLen; show 3 ≤ _; omega))
                generalize (w13.alloc (.cells #[.string jp, .string c2, .string x11] 9)) = w10 at *; refine wpAnyH_ready (rs := [11]) (by kernel_rfl) (by simp) ?_; refine (AllReadyH.cons rfl (fun K hK => ?_) AllReadyH.nil); go_simp
                (go_at_call 66; refine (Make_any 10 (by decide) n HNW.out _ _ [] [jp, c2, x11] HPS.out w10 (Rd.nil _ _) HRD.out (HT.out.only hHeld (by simp))).mono ?_; rw [HSX.out]; rintro e2 w11 ⟨rfl, ho⟩; replace HNM := hide (HNM.out.only ho (by simp)); replace HRD := hide (HRD.out.only ho (by simp)))
                refine hK.out _ _ (by first | exact hHeld.trans ho | exact hHeld.trans (ho.mono (by simp))) (fun hN => ?_); clear hK K ho hHeld; have hHeld := hN; clear hN; (try simp only [zsa, zsb, zsc, Act.put, zsd, zse, zsf])
                refine tk 12 ?_; refine wpAnyH_ready (rs := [14]) (by kernel_rfl) (by simp) ?_; refine (AllReadyH.cons rfl (fun K hK => ?_) AllReadyH.nil); rw [if_pos (by rfl)]
                refine wp_store_mid _ _ _ rfl _ _ #[.int .i64 3, .int .u32 0, .int .u32 (s : Nat), .int .u64 0, .string ⟨#[]⟩, .string ⟨#[]⟩, .string ⟨#[]⟩, .string ⟨#[]⟩, .string nb, .string sx, .string ⟨#[]⟩, .string ⟨#[]⟩, .string ⟨#[]⟩] rfl rfl (blk_there HNM.out _ rfl) (by kernel_rfl) (by simp [Value.oneCell']) ?_
                have HST2 := hide (show Blk (w11.setCells _ 0 [.int .i64 3, .int .u32 0, .int .u32 (s : Nat), .int .u64 0, .string ⟨#[]⟩, .string ⟨#[]⟩, .string ⟨#[]⟩, .string ⟨#[]⟩, .string nb, .string sx, .string ⟨#[]⟩, .string ⟨#[]⟩, .string ⟨#[]⟩]) _ 25 #[.int .i64 3, .int .u32 0, .int .u32 (s : Nat), .int .u64 0, .string ⟨#[]⟩, .string ⟨#[]⟩, .string ⟨#[]⟩, .string ⟨#[]⟩, .string nb, .string sx, .string ⟨#[]⟩, .string ⟨#[]⟩, .string ⟨#[]⟩] from blk_stored HNM.out [.int .i64 3, .int .u32 0, .int .u32 (s : Nat), .int .u64 0, .string ⟨#[]⟩, .string ⟨#[]⟩, .string ⟨#[]⟩, .string ⟨#[]⟩, .string nb, .string sx, .string ⟨#[]⟩, .string ⟨#[]⟩, .string ⟨#[]⟩] rfl)
                refine hK.out _ _ (by exact only_stored hHeld HNS.out [.int .i64 3, .int .u32 0, .int .u32 (s : Nat), .int .u64 0, .string ⟨#[]⟩, .string ⟨#[]⟩, .string ⟨#[]⟩, .string ⟨#[]⟩, .string nb, .string sx, .string ⟨#[]⟩, .string ⟨#[]⟩, .string ⟨#[]⟩]) (fun hN => ?_)
                clear hK K hHeld; have hHeld := hN; clear hN; (try simp only [zsa, zsb, zsc, Act.put])
                refine wpAnyH_done (by kernel_rfl) ?_ _; dsimp only [Exit.then]; refine hKK _ _ ?_; go_meet; exact ⟨_, rfl, HNS.out, HST2, hide hHeld⟩
            · go_simp; have HNS := hide hHeld.size; refine hK.out _ _ (by exact hHeld.alloc _) (fun hN => ?_); clear hK K hHeld; have hHeld := hN; clear hN; (try simp only [zsa, zsb, zsc, Act.put, zsd, zse, zsf])
              have HNM := hide (Blk.new w3 25 #[.int .i64 0, .int .u32 0, .int .u32 0, .int .u64 0, .string ⟨#[]⟩, .string ⟨#[]⟩, .string ⟨#[]⟩, .string ⟨#[]⟩, .string ⟨#[]⟩, .string ⟨#[]⟩, .string ⟨#[]⟩, .string ⟨#[]⟩, .string ⟨#[]⟩])
              generalize (w3.alloc (.cells #[.int .i64 0, .int .u32 0, .int .u32 0, .int .u64 0, .string ⟨#[]⟩, .string ⟨#[]⟩, .string ⟨#[]⟩, .string ⟨#[]⟩, .string ⟨#[]⟩, .string ⟨#[]⟩, .string ⟨#[]⟩, .string ⟨#[]⟩, .string ⟨#[]⟩] 25)) = w13 at *
              refine wpAnyH_ready (rs := [6]) (by kernel_rfl) (by simp) ?_; refine (AllReadyH.cons rfl (fun K hK => ?_) AllReadyH.nil); go_simp
              (go_at_call 64; refine (KJ.out _ (HT.out.only hHeld (by simp))).mono ?_; rintro e2 w6 ⟨rfl, ho⟩; replace HNM := hide (HNM.out.only ho (by simp)))
              refine hK.out _ _ (by first | exact hHeld.trans ho | exact hHeld.trans (ho.mono (by simp))) (fun hN => ?_); clear hK K ho hHeld; have hHeld := hN; clear hN; (try simp only [zsa, zsb, zsc, Act.put, zsd, zse, zsf])
              refine wpAnyH_ready (rs := [10]) (by kernel_rfl) (by simp) ?_; refine (AllReadyH.cons rfl (fun K hK => ?_) AllReadyH.nil); go_simp; refine hK.out _ _ (by exact hHeld.alloc _) (fun hN => ?_); clear hK K hHeld; have hHeld := hN
              clear hN; (try simp only [zsa, zsb, zsc, Act.put, zsd, zse, zsf]); replace HNM := hide (HNM.out.alloc (.cells #[.string jp, .string c2, .string x11] 9))
              have HRD := hide (show Rd (w6.alloc (.cells #[.string jp, .string c2, .string x11] 9)) [] (.slice (some ⟨w6.heap.size, 0, none⟩) 3 3) (strs [jp, c2, x11]) from rd_new w6 9 [] (strs [jp, c2, x11]) (by simp) (by unfold maxLen; show 3 ≤ _; omega))
              generalize (w6.alloc (.cells #[.string jp, .string c2, .string x11] 9)) = w10 at *; refine wpAnyH_ready (rs := [11]) (by kernel_rfl) (by simp) ?_; refine (AllReadyH.cons rfl (fun K hK => ?_) AllReadyH.nil); go_simp
              (go_at_call 66; refine (Make_any 10 (by decide) n HNW.out _ _ [] [jp, c2, x11] HPS.out w10 (Rd.nil _ _) HRD.out (HT.out.only hHeld (by simp))).mono ?_; rw [HSX.out]; rintro e2 w11 ⟨rfl, ho⟩; replace HNM := hide (HNM.out.only ho (by simp)); replace HRD := hide (HRD.out.only ho (by simp)))
              refine hK.out _ _ (by first | exact hHeld.trans ho | exact hHeld.trans (ho.mono (by simp))) (fun hN => ?_); clear hK K ho hHeld; have hHeld := hN; clear hN; (try simp only [zsa, zsb, zsc, Act.put, zsd, zse, zsf])
              refine tk 12 ?_; refine wpAnyH_ready (rs := [14]) (by kernel_rfl) (by simp) ?_; refine (AllReadyH.cons rfl (fun K hK => ?_) AllReadyH.nil); rw [if_pos (by rfl)]
              refine wp_store_mid _ _ _ rfl _ _ #[.int .i64 3, .int .u32 0, .int .u32 (s : Nat), .int .u64 0, .string ⟨#[]⟩, .string ⟨#[]⟩, .string ⟨#[]⟩, .string ⟨#[]⟩, .string nb, .string sx, .string ⟨#[]⟩, .string ⟨#[]⟩, .string ⟨#[]⟩] rfl rfl (blk_there HNM.out _ rfl) (by kernel_rfl) (by simp [Value.oneCell']) ?_
              have HST2 := hide (show Blk (w11.setCells _ 0 [.int .i64 3, .int .u32 0, .int .u32 (s : Nat), .int .u64 0, .string ⟨#[]⟩, .string ⟨#[]⟩, .string ⟨#[]⟩, .string ⟨#[]⟩, .string nb, .string sx, .string ⟨#[]⟩, .string ⟨#[]⟩, .string ⟨#[]⟩]) _ 25 #[.int .i64 3, .int .u32 0, .int .u32 (s : Nat), .int .u64 0, .string ⟨#[]⟩, .string ⟨#[]⟩, .string ⟨#[]⟩, .string ⟨#[]⟩, .string nb, .string sx, .string ⟨#[]⟩, .string ⟨#[]⟩, .string ⟨#[]⟩] from blk_stored HNM.out [.int .i64 3, .int .u32 0, .int .u32 (s : Nat), .int .u64 0, .string ⟨#[]⟩, .string ⟨#[]⟩, .string ⟨#[]⟩, .string ⟨#[]⟩, .string nb, .string sx, .string ⟨#[]⟩, .string ⟨#[]⟩, .string ⟨#[]⟩] rfl)
              refine hK.out _ _ (by exact only_stored hHeld HNS.out [.int .i64 3, .int .u32 0, .int .u32 (s : Nat), .int .u64 0, .string ⟨#[]⟩, .string ⟨#[]⟩, .string ⟨#[]⟩, .string ⟨#[]⟩, .string nb, .string sx, .string ⟨#[]⟩, .string ⟨#[]⟩, .string ⟨#[]⟩]) (fun hN => ?_)
              clear hK K hHeld; have hHeld := hN; clear hN; (try simp only [zsa, zsb, zsc, Act.put])
              refine wpAnyH_done (by kernel_rfl) ?_ _; dsimp only [Exit.then]; refine hKK _ _ ?_; go_meet; exact ⟨_, rfl, HNS.out, HST2, hide hHeld⟩
          · go_simp; have HNS := hide hHeld.size; refine hK.out _ _ (by exact hHeld.alloc _) (fun hN => ?_); clear hK K hHeld; have hHeld := hN; clear hN; (try simp only [zsa, zsb, zsc, Act.put, zsd, zse, zsf])
            have HNM := hide (Blk.new wd3 25 #[.int .i64 0, .int .u32 0, .int .u32 0, .int .u64 0, .string ⟨#[]⟩, .string ⟨#[]⟩, .string ⟨#[]⟩, .string ⟨#[]⟩, .string ⟨#[]⟩, .string ⟨#[]⟩, .string ⟨#[]⟩, .string ⟨#[]⟩, .string ⟨#[]⟩])
            generalize (wd3.alloc (.cells #[.int .i64 0, .int .u32 0, .int .u32 0, .int .u64 0, .string ⟨#[]⟩, .string ⟨#[]⟩, .string ⟨#[]⟩, .string ⟨#[]⟩, .string ⟨#[]⟩, .string ⟨#[]⟩, .string ⟨#[]⟩, .string ⟨#[]⟩, .string ⟨#[]⟩] 25)) = w13 at *
            refine wpAnyH_ready (rs := [3]) (by kernel_rfl) (by simp) ?_; refine (AllReadyH.cons rfl (fun K hK => ?_) AllReadyH.nil); go_simp
            (go_at_call 66; refine (KN.out _ (HT.out.only hHeld (by simp))).mono ?_; rintro e2 w3 ⟨rfl, ho⟩; replace HNM := hide (HNM.out.only ho (by simp)))
            refine hK.out _ _ (by first | exact hHeld.trans ho | exact hHeld.trans (ho.mono (by simp))) (fun hN => ?_); clear hK K ho hHeld; have hHeld := hN; clear hN; (try simp only [zsa, zsb, zsc, Act.put, zsd, zse, zsf])
            refine wpAnyH_ready (rs := [6]) (by kernel_rfl) (by simp) ?_; refine (AllReadyH.cons rfl (fun K hK => ?_) AllReadyH.nil); go_simp
            (go_at_call 64; refine (KJ.out _ (HT.out.only hHeld (by simp))).mono ?_; rintro e2 w6 ⟨rfl, ho⟩; replace HNM := hide (HNM.out.only ho (by simp)))
            refine hK.out _ _ (by first | exact hHeld.trans ho | exact hHeld.trans (ho.mono (by simp))) (fun hN => ?_); clear hK K ho hHeld; have hHeld := hN; clear hN; (try simp only [zsa, zsb, zsc, Act.put, zsd, zse, zsf])
            refine wpAnyH_ready (rs := [10]) (by kernel_rfl) (by simp) ?_; refine (AllReadyH.cons rfl (fun K hK => ?_) AllReadyH.nil); go_simp; refine hK.out _ _ (by exact hHeld.alloc _) (fun hN => ?_); clear hK K hHeld; have hHeld := hN
            clear hN; (try simp only [zsa, zsb, zsc, Act.put, zsd, zse, zsf]); replace HNM := hide (HNM.out.alloc (.cells #[.string jp, .string c2, .string x11] 9))
            have HRD := hide (show Rd (w6.alloc (.cells #[.string jp, .string c2, .string x11] 9)) [] (.slice (some ⟨w6.heap.size, 0, none⟩) 3 3) (strs [jp, c2, x11]) from rd_new w6 9 [] (strs [jp, c2, x11]) (by simp) (by unfold maxLen; show 3 ≤ _; omega))
            generalize (w6.alloc (.cells #[.string jp, .string c2, .string x11] 9)) = w10 at *; refine wpAnyH_ready (rs := [11]) (by kernel_rfl) (by simp) ?_; refine (AllReadyH.cons rfl (fun K hK => ?_) AllReadyH.nil); go_simp
            (go_at_call 66; refine (Make_any 10 (by decide) n HNW.out _ _ [] [jp, c2, x11] HPS.out w10 (Rd.nil _ _) HRD.out (HT.out.only hHeld (by simp))).mono ?_; rw [HSX.out]; rintro e2 w11 ⟨rfl, ho⟩; replace HNM := hide (HNM.out.only ho (by simp)); replace HRD := hide (HRD.out.only ho (by simp)))
            refine hK.out _ _ (by first | exact hHeld.trans ho | exact hHeld.trans (ho.mono (by simp))) (fun hN => ?_); clear hK K ho hHeld; have hHeld := hN; clear hN; (try simp only [zsa, zsb, zsc, Act.put, zsd, zse, zsf])
            refine tk 12 ?_; refine wpAnyH_ready (rs := [14]) (by kernel_rfl) (by simp) ?_; refine (AllReadyH.cons rfl (fun K hK => ?_) AllReadyH.nil); rw [if_pos (by rfl)]
            refine wp_store_mid _ _ _ rfl _ _ #[.int .i64 3, .int .u32 0, .int .u32 (s : Nat), .int .u64 0, .string ⟨#[]⟩, .string ⟨#[]⟩, .string ⟨#[]⟩, .string ⟨#[]⟩, .string nb, .string sx, .string ⟨#[]⟩, .string ⟨#[]⟩, .string ⟨#[]⟩] rfl rfl (blk_there HNM.out _ rfl) (by kernel_rfl) (by simp [Value.oneCell']) ?_
            have HST2 := hide (show Blk (w11.setCells _ 0 [.int .i64 3, .int .u32 0, .int .u32 (s : Nat), .int .u64 0, .string ⟨#[]⟩, .string ⟨#[]⟩, .string ⟨#[]⟩, .string ⟨#[]⟩, .string nb, .string sx, .string ⟨#[]⟩, .string ⟨#[]⟩, .string ⟨#[]⟩]) _ 25 #[.int .i64 3, .int .u32 0, .int .u32 (s : Nat), .int .u64 0, .string ⟨#[]⟩, .string ⟨#[]⟩, .string ⟨#[]⟩, .string ⟨#[]⟩, .string nb, .string sx, .string ⟨#[]⟩, .string ⟨#[]⟩, .string ⟨#[]⟩] from blk_stored HNM.out [.int .i64 3, .int .u32 0, .int .u32 (s : Nat), .int .u64 0, .string ⟨#[]⟩, .string ⟨#[]⟩, .string ⟨#[]⟩, .string ⟨#[]⟩, .string nb, .string sx, .string ⟨#[]⟩, .string ⟨#[]⟩, .string ⟨#[]⟩] rfl)
            refine hK.out _ _ (by exact only_stored hHeld HNS.out [.int .i64 3, .int .u32 0, .int .u32 (s : Nat), .int .u64 0, .string ⟨#[]⟩, .string ⟨#[]⟩, .string ⟨#[]⟩, .string ⟨#[]⟩, .string nb, .string sx, .string ⟨#[]⟩, .string ⟨#[]⟩, .string ⟨#[]⟩]) (fun hN => ?_)
            clear hK K hHeld; have hHeld := hN; clear hN; (try simp only [zsa, zsb, zsc, Act.put])
            refine wpAnyH_done (by kernel_rfl) ?_ _; dsimp only [Exit.then]; refine hKK _ _ ?_; go_meet; exact ⟨_, rfl, HNS.out, HST2, hide hHeld⟩
        case rest =>
          obtain ⟨m2, rfl, hm2, HN2, HO2⟩ := hcut
          have HGM := hide (show w.heap.size + 1 ≠ m2 by have := HRB.out.lt; omega)
          replace HRB := hide (HRB.out.only HO2.out (by simp))
          replace HO := hide (HO.out.trans HO2.out)
          clear HO2 hm2 KN KJ HPS HSX HNW HMB HT
          rename World => v4
          have q0 := HN2.out.cell 0; have q1 := HN2.out.cell 1; have q2 := HN2.out.cell 2; have q3 := HN2.out.cell 3; have q4 := HN2.out.cell 4; have q5 := HN2.out.cell 5; have q6 := HN2.out.cell 6; have q7 := HN2.out.cell 7; have q8 := HN2.out.cell 8; have q9 := HN2.out.cell 9; have q10 := HN2.out.cell 10; have q11 := HN2.out.cell 11; have q12 := HN2.out.cell 12; simp at q0 q1 q2 q3 q4 q5 q6 q7 q8 q9 q10 q11 q12
          have r0 := HRB.out.cell 0; have r1 := HRB.out.cell 1; have r2 := HRB.out.cell 2; have r3 := HRB.out.cell 3; have r4 := HRB.out.cell 4; have r5 := HRB.out.cell 5; have r6 := HRB.out.cell 6; have r7 := HRB.out.cell 7; have r8 := HRB.out.cell 8; have r9 := HRB.out.cell 9; have r10 := HRB.out.cell 10; have r11 := HRB.out.cell 11; have r12 := HRB.out.cell 12; simp at r0 r1 r2 r3 r4 r5 r6 r7 r8 r9 r10 r11 r12; have rf := HRB.out.frozen
          cases rr with
          | false =>
            simp only [Bool.false_eq_true, if_false] at HTM HV
            go_wp2_with (go_at_call 56; refine (HTM.out _).mono ?_; rintro e2 x9 ⟨ho, rfl⟩; replace HN2 := hide (HN2.out.only ho (by simp)); replace HRB := hide (HRB.out.only ho (by simp)); replace HO := hide (HO.out.trans ho); clear ho q0 q1 q2 q3 q4 q5 q6 q7 q8 q9 q10 q11 q12 r0 r1 r2 r3 r4 r5 r6 r7 r8 r9 r10 r11 r12 rf; have q0 := HN2.out.cell 0; have q1 := HN2.out.cell 1; have q2 := HN2.out.cell 2; have q3 := HN2.out.cell 3; have q4 := HN2.out.cell 4; have q5 := HN2.out.cell 5; have q6 := HN2.out.cell 6; have q7 := HN2.out.cell 7; have q8 := HN2.out.cell 8; have q9 := HN2.out.cell 9; have q10 := HN2.out.cell 10; have q11 := HN2.out.cell 11; have q12 := HN2.out.cell 12; simp at q0 q1 q2 q3 q4 q5 q6 q7 q8 q9 q10 q11 q12; have r0 := HRB.out.cell 0; have r1 := HRB.out.cell 1; have r2 := HRB.out.cell 2; have r3 := HRB.out.cell 3; have r4 := HRB.out.cell 4; have r5 := HRB.out.cell 5; have r6 := HRB.out.cell 6; have r7 := HRB.out.cell 7; have r8 := HRB.out.cell 8; have r9 := HRB.out.cell 9; have r10 := HRB.out.cell 10; have r11 := HRB.out.cell 11; have r12 := HRB.out.cell 12; simp at r0 r1 r2 r3 r4 r5 r6 r7 r8 r9 r10 r11 r12; have rf := HRB.out.frozen)
            refine bodyPost_ret (results_cell_two rfl _ _ (w.heap.size + 1) 25 _ (0, 0) _ rfl (set13 HRB.out (.int .i64 0) (.int .u32 0) (.int .u32 0) (.int .u64 0) (.string ⟨#[]⟩) (.string ⟨#[]⟩) (.string ⟨#[]⟩) (.string ⟨#[]⟩) (.string ⟨#[]⟩) (.string ⟨#[]⟩) (.string ⟨#[]⟩) (.string ⟨#[]⟩) (.string ⟨#[]⟩)) Tryz.underlying25 rfl (by kernel_rfl)) rfl ?_
            exact signpost (HV.out) (only13 HO.out (.inr (by omega)) (.int .i64 0) (.int .u32 0) (.int .u32 0) (.int .u64 0) (.string ⟨#[]⟩) (.string ⟨#[]⟩) (.string ⟨#[]⟩) (.string ⟨#[]⟩) (.string ⟨#[]⟩) (.string ⟨#[]⟩) (.string ⟨#[]⟩) (.string ⟨#[]⟩) (.string ⟨#[]⟩))
          | true =>
            simp only [if_true] at HTM HV
            go_wp2_with (go_at_call 56; refine (HTM.out _).mono ?_; rintro e2 x9 ⟨ho, v, rfl, hrd⟩; obtain ⟨A2, cp, hv, hcc, hmm⟩ := hrd.form; replace hv : v = .slice A2 2 cp := (by rw [hv, show (strc tl).length = tl.length by simp [strc], HTX.out]); subst hv; clear hrd hcc hmm; replace HN2 := hide (HN2.out.only ho (by simp)); replace HRB := hide (HRB.out.only ho (by simp)); replace HO := hide (HO.out.trans ho); clear ho q0 q1 q2 q3 q4 q5 q6 q7 q8 q9 q10 q11 q12 r0 r1 r2 r3 r4 r5 r6 r7 r8 r9 r10 r11 r12 rf; have q0 := HN2.out.cell 0; have q1 := HN2.out.cell 1; have q2 := HN2.out.cell 2; have q3 := HN2.out.cell 3; have q4 := HN2.out.cell 4; have q5 := HN2.out.cell 5; have q6 := HN2.out.cell 6; have q7 := HN2.out.cell 7; have q8 := HN2.out.cell 8; have q9 := HN2.out.cell 9; have q10 := HN2.out.cell 10; have q11 := HN2.out.cell 11; have q12 := HN2.out.cell 12; simp at q0 q1 q2 q3 q4 q5 q6 q7 q8 q9 q10 q11 q12; have r0 := HRB.out.cell 0; have r1 := HRB.out.cell 1; have r2 := HRB.out.cell 2; have r3 := HRB.out.cell 3; have r4 := HRB.out.cell 4; have r5 := HRB.out.cell 5; have r6 := HRB.out.cell 6; have r7 := HRB.out.cell 7; have r8 := HRB.out.cell 8; have r9 := HRB.out.cell 9; have r10 := HRB.out.cell 10; have r11 := HRB.out.cell 11; have r12 := HRB.out.cell 12; simp at r0 r1 r2 r3 r4 r5 r6 r7 r8 r9 r10 r11 r12; have rf := HRB.out.frozen)
            refine bodyPost_ret (results_cell_two rfl _ _ (w.heap.size + 1) 25 _ (0, 0) _ rfl (set13 HRB.out (.int .i64 3) (.int .u32 0) (.int .u32 (s : Nat)) (.int .u64 0) (.string ⟨#[]⟩) (.string ⟨#[]⟩) (.string ⟨#[]⟩) (.string ⟨#[]⟩) (.string nb) (.string sx) (.string ⟨#[]⟩) (.string ⟨#[]⟩) (.string ⟨#[]⟩)) Tryz.underlying25 rfl (by kernel_rfl)) rfl ?_
            exact signpost (HV.out) (only13 HO.out (.inr (by omega)) (.int .i64 3) (.int .u32 0) (.int .u32 (s : Nat)) (.int .u64 0) (.string ⟨#[]⟩) (.string ⟨#[]⟩) (.string ⟨#[]⟩) (.string ⟨#[]⟩) (.string nb) (.string sx) (.string ⟨#[]⟩) (.string ⟨#[]⟩) (.string ⟨#[]⟩))
    · have e2 : (kp != 5) = true := by rw [bne_iff_ne]; exact hp5
      have HV := hide (HV1.out (by rw [HOK.out]; rw [show decide (kp = 5) = false from decide_eq_false hp5]; rfl))
      clear KN KJ HPS HSX HTM HTX HCS HNW HV2 HV1 HOK
      go_wp2_with (first
        | (go_at_call 50; refine (HST.out _).mono ?_; rintro e2 x1 ⟨rfl, ho⟩; replace HMB := hide (HMB.out.only ho (by simp)); replace HRB := hide (HRB.out.only ho (by simp)); replace HT := hide (HT.out.only ho (by simp)); replace HO := hide (HO.out.trans ho); clear ho m0 m1 m2 m3 m4 m5 m6 m7 m8 m9 m10 m11 m12 r0 r1 r2 r3 r4 r5 r6 r7 r8 r9 r10 r11 r12 rf; obtain ⟨m0, m1, m2, m3, m4, m5, m6, m7, m8, m9, m10, m11, m12⟩ := cells13 HMB.out; have r0 := HRB.out.cell 0; have r1 := HRB.out.cell 1; have r2 := HRB.out.cell 2; have r3 := HRB.out.cell 3; have r4 := HRB.out.cell 4; have r5 := HRB.out.cell 5; have r6 := HRB.out.cell 6; have r7 := HRB.out.cell 7; have r8 := HRB.out.cell 8; have r9 := HRB.out.cell 9; have r10 := HRB.out.cell 10; have r11 := HRB.out.cell 11; have r12 := HRB.out.cell 12; simp at r0 r1 r2 r3 r4 r5 r6 r7 r8 r9 r10 r11 r12; have rf := HRB.out.frozen)
        | (go_at_call 51; (with_reducible refine (KP.out _).mono ?_); rintro e2 x2 ⟨rfl, ho⟩; replace HMB := hide (HMB.out.only ho (by simp)); replace HRB := hide (HRB.out.only ho (by simp)); replace HT := hide (HT.out.only ho (by simp)); replace HO := hide (HO.out.trans ho); clear ho m0 m1 m2 m3 m4 m5 m6 m7 m8 m9 m10 m11 m12 r0 r1 r2 r3 r4 r5 r6 r7 r8 r9 r10 r11 r12 rf; obtain ⟨m0, m1, m2, m3, m4, m5, m6, m7, m8, m9, m10, m11, m12⟩ := cells13 HMB.out; have r0 := HRB.out.cell 0; have r1 := HRB.out.cell 1; have r2 := HRB.out.cell 2; have r3 := HRB.out.cell 3; have r4 := HRB.out.cell 4; have r5 := HRB.out.cell 5; have r6 := HRB.out.cell 6; have r7 := HRB.out.cell 7; have r8 := HRB.out.cell 8; have r9 := HRB.out.cell 9; have r10 := HRB.out.cell 10; have r11 := HRB.out.cell 11; have r12 := HRB.out.cell 12; simp at r0 r1 r2 r3 r4 r5 r6 r7 r8 r9 r10 r11 r12; have rf := HRB.out.frozen))
      refine bodyPost_ret (results_cell_two rfl _ _ (w.heap.size + 1) 25 _ (0, 0) _ rfl (set13 HRB.out (.int .i64 0) (.int .u32 0) (.int .u32 0) (.int .u64 0) (.string ⟨#[]⟩) (.string ⟨#[]⟩) (.string ⟨#[]⟩) (.string ⟨#[]⟩) (.string ⟨#[]⟩) (.string ⟨#[]⟩) (.string ⟨#[]⟩) (.string ⟨#[]⟩) (.string ⟨#[]⟩)) Tryz.underlying25 rfl (by kernel_rfl)) rfl ?_
      exact signpost (HV.out) (only13 HO.out (.inr (by omega)) (.int .i64 0) (.int .u32 0) (.int .u32 0) (.int .u64 0) (.string ⟨#[]⟩) (.string ⟨#[]⟩) (.string ⟨#[]⟩) (.string ⟨#[]⟩) (.string ⟨#[]⟩) (.string ⟨#[]⟩) (.string ⟨#[]⟩) (.string ⟨#[]⟩) (.string ⟨#[]⟩))
end
end Go.Proofs.YtfipdjlalfpbnaaGreatDoor

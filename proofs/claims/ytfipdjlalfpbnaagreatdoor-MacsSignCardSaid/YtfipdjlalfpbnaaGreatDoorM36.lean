/-
  Walks and plain words (texts Ms2, Mc4a). No condition beyond those that each theorem states.
-/
import Derived.Test.YtfipdjlalfpbnaaGreatDoorM32
import Derived.Test.YtfipdjlalfpbnaaGreatDoorM35
namespace Go.Proofs.YtfipdjlalfpbnaaGreatDoor
section
open Go.RowKit Go.Deep

theorem macd_fine {m : Mg} (h : m.Fine) {a b : ByteArray} (ha : a.size ≤ maxLen) (hb : b.size ≤ maxLen) : (macd m a b).Fine := ⟨h.s, h.r, h.c, h.x4, h.x5, h.x6, h.x7, h.x8, h.x9, h.x10, ha, hb⟩
theorem one_size : oneT.size ≤ maxLen := by unfold maxLen; show 1 ≤ _; omega
set_option maxRecDepth 100000 in
set_option maxHeartbeats 12800000 in
theorem SignR_any (w : World) (m : Mg) (p c2 : ByteArray) (hF : m.Fine) (hp : p.size ≤ maxLen) (hc : c2.size ≤ maxLen) : Calls Tryz.prog 20 #[.agg m.cells, .string p, .string c2] w fun e w' =>
    e = .returned (.agg (macd m (sumT (doorT p) (bodyM (macd m oneT oneT))) (sec2 (macd m (sumT (doorT p) (bodyM (macd m oneT oneT))) oneT) c2)).cells) ∧ Only [] w w' := by
  obtain ⟨s1, e_s1⟩ : ∃ x, sumT (doorT p) (bodyM (macd m oneT oneT)) = x := ⟨_, rfl⟩
  have z_s1 : s1.size ≤ maxLen := e_s1 ▸ sum_size _ _
  have K1 := hide (fun W => FirstR_any W (macd m oneT oneT) p (macd_fine hF one_size one_size) hp)
  rw [e_s1] at K1 ⊢
  obtain ⟨s2, e_s2⟩ : ∃ x, sec2 (macd m s1 oneT) c2 = x := ⟨_, rfl⟩
  have K2 := hide (fun W => SecondR_any W (macd m s1 oneT) c2 (macd_fine hF z_s1 one_size) hc)
  rw [e_s2] at K2 ⊢
  unfold MakePost at K1 K2
  clear e_s1 e_s2 hF hp hc z_s1
  obtain ⟨k, s, r, c, x4, x5, x6, x7, x8, x9, x10, x11, x12⟩ := m
  unfold macd Mg.cells oneT at K1 K2
  unfold macd Mg.cells
  simp only at K1 K2 ⊢
  have HMB := hide ((Blk.new w 25 #[.int .i64 k, .int .u32 (s : Nat), .int .u32 (r : Nat), .int .u64 (c : Nat), .string x4, .string x5, .string x6, .string x7, .string x8, .string x9, .string x10, .string x11, .string x12]).alloc (.cells #[.int .i64 0, .int .u32 0, .int .u32 0, .int .u64 0, .string ⟨#[]⟩, .string ⟨#[]⟩, .string ⟨#[]⟩, .string ⟨#[]⟩, .string ⟨#[]⟩, .string ⟨#[]⟩, .string ⟨#[]⟩, .string ⟨#[]⟩, .string ⟨#[]⟩] 25))
  have HRB := hide (Blk.new (w.alloc (.cells #[.int .i64 k, .int .u32 (s : Nat), .int .u32 (r : Nat), .int .u64 (c : Nat), .string x4, .string x5, .string x6, .string x7, .string x8, .string x9, .string x10, .string x11, .string x12] 25)) 25 #[.int .i64 0, .int .u32 0, .int .u32 0, .int .u64 0, .string ⟨#[]⟩, .string ⟨#[]⟩, .string ⟨#[]⟩, .string ⟨#[]⟩, .string ⟨#[]⟩, .string ⟨#[]⟩, .string ⟨#[]⟩, .string ⟨#[]⟩, .string ⟨#[]⟩])
  rw [World.size_alloc] at HRB
  have HO := hide (((Only.refl [] w).alloc (.cells #[.int .i64 k, .int .u32 (s : Nat), .int .u32 (r : Nat), .int .u64 (c : Nat), .string x4, .string x5, .string x6, .string x7, .string x8, .string x9, .string x10, .string x11, .string x12] 25)).alloc (.cells #[.int .i64 0, .int .u32 0, .int .u32 0, .int .u64 0, .string ⟨#[]⟩, .string ⟨#[]⟩, .string ⟨#[]⟩, .string ⟨#[]⟩, .string ⟨#[]⟩, .string ⟨#[]⟩, .string ⟨#[]⟩, .string ⟨#[]⟩, .string ⟨#[]⟩] 25))
  go_enter Tryz.func20, Tryz.ntmps20
  go_upto_region 1 with fail
  generalize ((w.alloc (.cells #[.int .i64 k, .int .u32 (s : Nat), .int .u32 (r : Nat), .int .u64 (c : Nat), .string x4, .string x5, .string x6, .string x7, .string x8, .string x9, .string x10, .string x11, .string x12] 25)).alloc (.cells #[.int .i64 0, .int .u32 0, .int .u32 0, .int .u64 0, .string ⟨#[]⟩, .string ⟨#[]⟩, .string ⟨#[]⟩, .string ⟨#[]⟩, .string ⟨#[]⟩, .string ⟨#[]⟩, .string ⟨#[]⟩, .string ⟨#[]⟩, .string ⟨#[]⟩] 25)) = v0 at *
  obtain ⟨m0, m1, m2, m3, m4, m5, m6, m7, m8, m9, m10, m11, m12⟩ := cells13 HMB.out
  have mf := HMB.out.frozen
  go_upto_region 3 with fail
  replace HMB := hide (show Blk ((v0.setCell ⟨w.heap.size, 11, none⟩ (.string ⟨#[48]⟩)).setCell ⟨w.heap.size, 12, none⟩ (.string ⟨#[48]⟩)) w.heap.size 25 #[.int .i64 k, .int .u32 (s : Nat), .int .u32 (r : Nat), .int .u64 (c : Nat), .string x4, .string x5, .string x6, .string x7, .string x8, .string x9, .string x10, .string ⟨#[48]⟩, .string ⟨#[48]⟩] from (by have h := ((HMB.out.set_ 11 (.string ⟨#[48]⟩)).set_ 12 (.string ⟨#[48]⟩)); simp only [List.setIfInBounds_toArray, List.set_cons_zero, List.set_cons_succ] at h; exact h))
  replace HRB := hide ((HRB.out.far (p := ⟨w.heap.size, 11, none⟩) (by simp) (.string ⟨#[48]⟩)).far (p := ⟨w.heap.size, 12, none⟩) (by simp) (.string ⟨#[48]⟩))
  replace HO := hide ((HO.out.setCell (p := ⟨w.heap.size, 11, none⟩) (.inr (Nat.le_refl _)) (.string ⟨#[48]⟩)).setCell (p := ⟨w.heap.size, 12, none⟩) (.inr (Nat.le_refl _)) (.string ⟨#[48]⟩))
  clear m0 m1 m2 m3 m4 m5 m6 m7 m8 m9 m10 m11 m12 mf
  generalize ((v0.setCell ⟨w.heap.size, 11, none⟩ (.string ⟨#[48]⟩)).setCell ⟨w.heap.size, 12, none⟩ (.string ⟨#[48]⟩)) = v1 at *
  obtain ⟨m0, m1, m2, m3, m4, m5, m6, m7, m8, m9, m10, m11, m12⟩ := cells13 HMB.out
  have mf := HMB.out.frozen
  go_upto_region 4 with (go_at_call 16; refine (K1.out _).mono ?_; rintro e2 x1 ⟨rfl, ho⟩; replace HMB := hide (HMB.out.only ho (by simp)); replace HRB := hide (HRB.out.only ho (by simp)); replace HO := hide (HO.out.trans ho); clear ho m0 m1 m2 m3 m4 m5 m6 m7 m8 m9 m10 m11 m12 mf; obtain ⟨m0, m1, m2, m3, m4, m5, m6, m7, m8, m9, m10, m11, m12⟩ := cells13 HMB.out; have mf := HMB.out.frozen)
  replace HMB := hide (show Blk (x1.setCell ⟨w.heap.size, 11, none⟩ (.string s1)) w.heap.size 25 #[.int .i64 k, .int .u32 (s : Nat), .int .u32 (r : Nat), .int .u64 (c : Nat), .string x4, .string x5, .string x6, .string x7, .string x8, .string x9, .string x10, .string s1, .string ⟨#[48]⟩] from (by have h := (HMB.out.set_ 11 (.string s1)); simp only [List.setIfInBounds_toArray, List.set_cons_zero, List.set_cons_succ] at h; exact h))
  replace HRB := hide (HRB.out.far (p := ⟨w.heap.size, 11, none⟩) (by simp) (.string s1))
  replace HO := hide (HO.out.setCell (p := ⟨w.heap.size, 11, none⟩) (.inr (Nat.le_refl _)) (.string s1))
  clear m0 m1 m2 m3 m4 m5 m6 m7 m8 m9 m10 m11 m12 mf
  generalize (x1.setCell ⟨w.heap.size, 11, none⟩ (.string s1)) = v2 at *
  obtain ⟨m0, m1, m2, m3, m4, m5, m6, m7, m8, m9, m10, m11, m12⟩ := cells13 HMB.out
  have mf := HMB.out.frozen
  go_upto_region 5 with (go_at_call 19; refine (K2.out _).mono ?_; rintro e2 x2 ⟨rfl, ho⟩; replace HMB := hide (HMB.out.only ho (by simp)); replace HRB := hide (HRB.out.only ho (by simp)); replace HO := hide (HO.out.trans ho); clear ho m0 m1 m2 m3 m4 m5 m6 m7 m8 m9 m10 m11 m12 mf; obtain ⟨m0, m1, m2, m3, m4, m5, m6, m7, m8, m9, m10, m11, m12⟩ := cells13 HMB.out; have mf := HMB.out.frozen)
  replace HMB := hide (show Blk (x2.setCell ⟨w.heap.size, 12, none⟩ (.string s2)) w.heap.size 25 #[.int .i64 k, .int .u32 (s : Nat), .int .u32 (r : Nat), .int .u64 (c : Nat), .string x4, .string x5, .string x6, .string x7, .string x8, .string x9, .string x10, .string s1, .string s2] from (by have h := (HMB.out.set_ 12 (.string s2)); simp only [List.setIfInBounds_toArray, List.set_cons_zero, List.set_cons_succ] at h; exact h))
  replace HRB := hide (HRB.out.far (p := ⟨w.heap.size, 12, none⟩) (by simp) (.string s2))
  replace HO := hide (HO.out.setCell (p := ⟨w.heap.size, 12, none⟩) (.inr (Nat.le_refl _)) (.string s2))
  clear m0 m1 m2 m3 m4 m5 m6 m7 m8 m9 m10 m11 m12 mf
  generalize (x2.setCell ⟨w.heap.size, 12, none⟩ (.string s2)) = v3 at *
  obtain ⟨m0, m1, m2, m3, m4, m5, m6, m7, m8, m9, m10, m11, m12⟩ := cells13 HMB.out
  have mf := HMB.out.frozen
  have r0 := HRB.out.cell 0; have r1 := HRB.out.cell 1; have r2 := HRB.out.cell 2; have r3 := HRB.out.cell 3; have r4 := HRB.out.cell 4; have r5 := HRB.out.cell 5; have r6 := HRB.out.cell 6; have r7 := HRB.out.cell 7; have r8 := HRB.out.cell 8; have r9 := HRB.out.cell 9; have r10 := HRB.out.cell 10; have r11 := HRB.out.cell 11; have r12 := HRB.out.cell 12; simp at r0 r1 r2 r3 r4 r5 r6 r7 r8 r9 r10 r11 r12; have rf := HRB.out.frozen
  go_wp2_with fail
  refine bodyPost_ret (results_cell_row rfl _ _ (w.heap.size + 1) 25 _ (0, 0) _ rfl (set13 HRB.out (.int .i64 k) (.int .u32 (s : Nat)) (.int .u32 (r : Nat)) (.int .u64 (c : Nat)) (.string x4) (.string x5) (.string x6) (.string x7) (.string x8) (.string x9) (.string x10) (.string s1) (.string s2)) Tryz.underlying25 rfl (by kernel_rfl)) rfl ?_
  exact ⟨rfl, only13 HO.out (.inr (by omega)) (.int .i64 k) (.int .u32 (s : Nat)) (.int .u32 (r : Nat)) (.int .u64 (c : Nat)) (.string x4) (.string x5) (.string x6) (.string x7) (.string x8) (.string x9) (.string x10) (.string s1) (.string s2)⟩
end
section
open Go.RowKit Go.Deep

set_option maxRecDepth 100000 in
set_option maxHeartbeats 12800000 in
theorem Sign_no (w : World) (m : Mg) (p c2 : ByteArray) (hF : m.Fine) (hk0 : -9223372036854775808 ≤ m.k) (hp : p.size ≤ maxLen) (hc : c2.size ≤ maxLen) (htab : Tab w) (hb : okSign m p c2 = true) (hce : c2 = ByteArray.empty) (hR : rightM (sign2 m p c2) = true) :
    Calls Tryz.prog 12 #[.agg m.cells, .string p, .string c2] w (SignPost (signMV m p c2) w) := by
  have HV := hide (show signMV m p c2 = (0, sign2 m p c2) by unfold signMV; rw [hb, if_pos rfl, if_pos hR])
  have HST := hide (fun W => starts_any W m hF hk0)
  unfold RetB at HST
  have HKP := hide (fun W => Kind_any W p hp)
  have HKC := hide (fun W => Kind_any W c2 hc)
  unfold KindPost at HKP HKC
  have HTM := hide (fun W => Terms_any W (sign2 m p c2) (sign2_fine hF p c2))
  unfold TermsPost at HTM
  simp only [hR, if_true] at HTM
  have HTL := hide (show 0 < (textsM (sign2 m p c2)).length from texts_pos hR)
  obtain ⟨tl, htl⟩ : ∃ l, l = textsM (sign2 m p c2) := ⟨_, rfl⟩
  rw [← htl] at HTM HTL
  clear htl
  have HBD := hide (fun W ht => Body_any W m hF ht)
  have HDR := hide (fun W ht => door_any W p hp ht)
  have HSM := hide (fun W ht => sum_any W (doorT p) (bodyM m) (door_size p) (body_size m) ht)
  unfold MakePost at HBD HDR HSM
  have h1 : startsM m = true ∧ kindT p = 5 := by unfold okSign at hb; rw [Bool.and_eq_true, Bool.and_eq_true] at hb; exact ⟨hb.1, of_decide_eq_true hb.2.1⟩
  rw [h1.1] at HST
  have e2 : (kindT p != 5) = false := by rw [bne_eq_false_iff_eq]; exact h1.2
  have e2b : kindT p = 5 := h1.2
  rw [e2b] at HKP e2
  have e3 : c2.toList.isEmpty = true := by rw [hce]; kernel_rfl
  have HS := hide (show sign2 m p c2 = sign1 m p by unfold sign2; rw [if_pos hce])
  rw [HS.out] at HTM HV
  unfold sign1 at HTM HV
  clear hb hR hce h1 e2b HS
  change Hid (∀ W ht, Calls _ _ _ _ (fun e w' => e = .returned (.string (sumT (doorT p) (bodyM m))) ∧ Only [] W w')) at HSM
  generalize sumT (doorT p) (bodyM m) = s1 at *
  generalize bodyM m = bd at *
  generalize doorT p = dp at *
  obtain ⟨k, s, r, c, x4, x5, x6, x7, x8, x9, x10, x11, x12⟩ := m
  unfold Mg.cells at HST HTM HBD ⊢
  simp only at HST HTM HBD HV ⊢
  have HMB := hide ((Blk.new w 25 #[.int .i64 k, .int .u32 (s : Nat), .int .u32 (r : Nat), .int .u64 (c : Nat), .string x4, .string x5, .string x6, .string x7, .string x8, .string x9, .string x10, .string x11, .string x12]).alloc (.cells #[.int .i64 0, .int .u32 0, .int .u32 0, .int .u64 0, .string ⟨#[]⟩, .string ⟨#[]⟩, .string ⟨#[]⟩, .string ⟨#[]⟩, .string ⟨#[]⟩, .string ⟨#[]⟩, .string ⟨#[]⟩, .string ⟨#[]⟩, .string ⟨#[]⟩] 25))
  have HRB := hide (Blk.new (w.alloc (.cells #[.int .i64 k, .int .u32 (s : Nat), .int .u32 (r : Nat), .int .u64 (c : Nat), .string x4, .string x5, .string x6, .string x7, .string x8, .string x9, .string x10, .string x11, .string x12] 25)) 25 #[.int .i64 0, .int .u32 0, .int .u32 0, .int .u64 0, .string ⟨#[]⟩, .string ⟨#[]⟩, .string ⟨#[]⟩, .string ⟨#[]⟩, .string ⟨#[]⟩, .string ⟨#[]⟩, .string ⟨#[]⟩, .string ⟨#[]⟩, .string ⟨#[]⟩])
  rw [World.size_alloc] at HRB
  have HO := hide (((Only.refl [] w).alloc (.cells #[.int .i64 k, .int .u32 (s : Nat), .int .u32 (r : Nat), .int .u64 (c : Nat), .string x4, .string x5, .string x6, .string x7, .string x8, .string x9, .string x10, .string x11, .string x12] 25)).alloc (.cells #[.int .i64 0, .int .u32 0, .int .u32 0, .int .u64 0, .string ⟨#[]⟩, .string ⟨#[]⟩, .string ⟨#[]⟩, .string ⟨#[]⟩, .string ⟨#[]⟩, .string ⟨#[]⟩, .string ⟨#[]⟩, .string ⟨#[]⟩, .string ⟨#[]⟩] 25))
  have HT := hide (htab.only HO.out (by simp))
  have HTW := hide htab
  clear htab hF hk0
  obtain ⟨n, hn⟩ : ∃ n, n = tl.length := ⟨_, rfl⟩
  have hnz : ((n : Int) == 0) = false := by rw [beq_eq_false_iff_ne]; have := HTL.out; omega
  have HN := hide hn
  clear hn
  go_enter Tryz.func12, Tryz.ntmps12
  go_upto_region 1 with fail
  generalize ((w.alloc (.cells #[.int .i64 k, .int .u32 (s : Nat), .int .u32 (r : Nat), .int .u64 (c : Nat), .string x4, .string x5, .string x6, .string x7, .string x8, .string x9, .string x10, .string x11, .string x12] 25)).alloc (.cells #[.int .i64 0, .int .u32 0, .int .u32 0, .int .u64 0, .string ⟨#[]⟩, .string ⟨#[]⟩, .string ⟨#[]⟩, .string ⟨#[]⟩, .string ⟨#[]⟩, .string ⟨#[]⟩, .string ⟨#[]⟩, .string ⟨#[]⟩, .string ⟨#[]⟩] 25)) = v0 at *
  have m0 := HMB.out.cell 0; have m1 := HMB.out.cell 1; have m2 := HMB.out.cell 2; have m3 := HMB.out.cell 3; have m4 := HMB.out.cell 4; have m5 := HMB.out.cell 5; have m6 := HMB.out.cell 6; have m7 := HMB.out.cell 7; have m8 := HMB.out.cell 8; have m9 := HMB.out.cell 9; have m10 := HMB.out.cell 10; have m11 := HMB.out.cell 11; have m12 := HMB.out.cell 12; simp at m0 m1 m2 m3 m4 m5 m6 m7 m8 m9 m10 m11 m12
  have r0 := HRB.out.cell 0; have r1 := HRB.out.cell 1; have r2 := HRB.out.cell 2; have r3 := HRB.out.cell 3; have r4 := HRB.out.cell 4; have r5 := HRB.out.cell 5; have r6 := HRB.out.cell 6; have r7 := HRB.out.cell 7; have r8 := HRB.out.cell 8; have r9 := HRB.out.cell 9; have r10 := HRB.out.cell 10; have r11 := HRB.out.cell 11; have r12 := HRB.out.cell 12; simp at r0 r1 r2 r3 r4 r5 r6 r7 r8 r9 r10 r11 r12; have rf := HRB.out.frozen
  go_wp2_with (first | (go_at_call 50; (with_reducible refine (HST.out _).mono ?_); rintro e w1 ⟨rfl, ho⟩; replace HMB := hide (HMB.out.only ho (by simp)); replace HRB := hide (HRB.out.only ho (by simp)); replace HT := hide (HT.out.only ho (by simp)); replace HO := hide (HO.out.trans ho); clear ho; (first | (clear m0 m1 m2 m3 m4 m5 m6 m7 m8 m9 m10 m11 m12) | skip); have mf := HMB.out.frozen; have m0 := HMB.out.cell 0; have m1 := HMB.out.cell 1; have m2 := HMB.out.cell 2; have m3 := HMB.out.cell 3; have m4 := HMB.out.cell 4; have m5 := HMB.out.cell 5; have m6 := HMB.out.cell 6; have m7 := HMB.out.cell 7; have m8 := HMB.out.cell 8; have m9 := HMB.out.cell 9; have m10 := HMB.out.cell 10; have m11 := HMB.out.cell 11; have m12 := HMB.out.cell 12; simp at m0 m1 m2 m3 m4 m5 m6 m7 m8 m9 m10 m11 m12; (first | (clear r0 r1 r2 r3 r4 r5 r6 r7 r8 r9 r10 r11 r12 rf) | skip); have r0 := HRB.out.cell 0; have r1 := HRB.out.cell 1; have r2 := HRB.out.cell 2; have r3 := HRB.out.cell 3; have r4 := HRB.out.cell 4; have r5 := HRB.out.cell 5; have r6 := HRB.out.cell 6; have r7 := HRB.out.cell 7; have r8 := HRB.out.cell 8; have r9 := HRB.out.cell 9; have r10 := HRB.out.cell 10; have r11 := HRB.out.cell 11; have r12 := HRB.out.cell 12; simp at r0 r1 r2 r3 r4 r5 r6 r7 r8 r9 r10 r11 r12; have rf := HRB.out.frozen) | (go_at_call 51; (with_reducible refine (HKP.out _).mono ?_); rintro e w2 ⟨rfl, ho⟩; replace HMB := hide (HMB.out.only ho (by simp)); replace HRB := hide (HRB.out.only ho (by simp)); replace HT := hide (HT.out.only ho (by simp)); replace HO := hide (HO.out.trans ho); clear ho; (first | (clear m0 m1 m2 m3 m4 m5 m6 m7 m8 m9 m10 m11 m12) | skip); have mf := HMB.out.frozen; have m0 := HMB.out.cell 0; have m1 := HMB.out.cell 1; have m2 := HMB.out.cell 2; have m3 := HMB.out.cell 3; have m4 := HMB.out.cell 4; have m5 := HMB.out.cell 5; have m6 := HMB.out.cell 6; have m7 := HMB.out.cell 7; have m8 := HMB.out.cell 8; have m9 := HMB.out.cell 9; have m10 := HMB.out.cell 10; have m11 := HMB.out.cell 11; have m12 := HMB.out.cell 12; simp at m0 m1 m2 m3 m4 m5 m6 m7 m8 m9 m10 m11 m12; (first | (clear r0 r1 r2 r3 r4 r5 r6 r7 r8 r9 r10 r11 r12 rf) | skip); have r0 := HRB.out.cell 0; have r1 := HRB.out.cell 1; have r2 := HRB.out.cell 2; have r3 := HRB.out.cell 3; have r4 := HRB.out.cell 4; have r5 := HRB.out.cell 5; have r6 := HRB.out.cell 6; have r7 := HRB.out.cell 7; have r8 := HRB.out.cell 8; have r9 := HRB.out.cell 9; have r10 := HRB.out.cell 10; have r11 := HRB.out.cell 11; have r12 := HRB.out.cell 12; simp at r0 r1 r2 r3 r4 r5 r6 r7 r8 r9 r10 r11 r12; have rf := HRB.out.frozen) | (go_at_call 51; (with_reducible refine (HKC.out _).mono ?_); rintro e w3 ⟨rfl, ho⟩; replace HMB := hide (HMB.out.only ho (by simp)); replace HRB := hide (HRB.out.only ho (by simp)); replace HT := hide (HT.out.only ho (by simp)); replace HO := hide (HO.out.trans ho); clear ho; (first | (clear m0 m1 m2 m3 m4 m5 m6 m7 m8 m9 m10 m11 m12) | skip); have mf := HMB.out.frozen; have m0 := HMB.out.cell 0; have m1 := HMB.out.cell 1; have m2 := HMB.out.cell 2; have m3 := HMB.out.cell 3; have m4 := HMB.out.cell 4; have m5 := HMB.out.cell 5; have m6 := HMB.out.cell 6; have m7 := HMB.out.cell 7; have m8 := HMB.out.cell 8; have m9 := HMB.out.cell 9; have m10 := HMB.out.cell 10; have m11 := HMB.out.cell 11; have m12 := HMB.out.cell 12; simp at m0 m1 m2 m3 m4 m5 m6 m7 m8 m9 m10 m11 m12; (first | (clear r0 r1 r2 r3 r4 r5 r6 r7 r8 r9 r10 r11 r12 rf) | skip); have r0 := HRB.out.cell 0; have r1 := HRB.out.cell 1; have r2 := HRB.out.cell 2; have r3 := HRB.out.cell 3; have r4 := HRB.out.cell 4; have r5 := HRB.out.cell 5; have r6 := HRB.out.cell 6; have r7 := HRB.out.cell 7; have r8 := HRB.out.cell 8; have r9 := HRB.out.cell 9; have r10 := HRB.out.cell 10; have r11 := HRB.out.cell 11; have r12 := HRB.out.cell 12; simp at r0 r1 r2 r3 r4 r5 r6 r7 r8 r9 r10 r11 r12; have rf := HRB.out.frozen))
  go_region_with (first | (go_at_call 53; refine (HDR.out _ (by first | exact HT.out | exact HT.out.only ((Only.refl _ _).drew) (by simp))).mono ?_; rintro e w4 ⟨rfl, ho⟩; (first | (replace ho := undrew ho) | skip); replace HMB := hide (HMB.out.only ho (by simp)); replace HRB := hide (HRB.out.only ho (by simp)); replace HT := hide (HT.out.only ho (by simp)); replace HO := hide (HO.out.trans ho); clear ho; (first | (clear m0 m1 m2 m3 m4 m5 m6 m7 m8 m9 m10 m11 m12) | skip); have mf := HMB.out.frozen; have m0 := HMB.out.cell 0; have m1 := HMB.out.cell 1; have m2 := HMB.out.cell 2; have m3 := HMB.out.cell 3; have m4 := HMB.out.cell 4; have m5 := HMB.out.cell 5; have m6 := HMB.out.cell 6; have m7 := HMB.out.cell 7; have m8 := HMB.out.cell 8; have m9 := HMB.out.cell 9; have m10 := HMB.out.cell 10; have m11 := HMB.out.cell 11; have m12 := HMB.out.cell 12; simp at m0 m1 m2 m3 m4 m5 m6 m7 m8 m9 m10 m11 m12; (first | (clear r0 r1 r2 r3 r4 r5 r6 r7 r8 r9 r10 r11 r12 rf) | skip); have r0 := HRB.out.cell 0; have r1 := HRB.out.cell 1; have r2 := HRB.out.cell 2; have r3 := HRB.out.cell 3; have r4 := HRB.out.cell 4; have r5 := HRB.out.cell 5; have r6 := HRB.out.cell 6; have r7 := HRB.out.cell 7; have r8 := HRB.out.cell 8; have r9 := HRB.out.cell 9; have r10 := HRB.out.cell 10; have r11 := HRB.out.cell 11; have r12 := HRB.out.cell 12; simp at r0 r1 r2 r3 r4 r5 r6 r7 r8 r9 r10 r11 r12; have rf := HRB.out.frozen) | (go_at_call 54; refine (HBD.out _ (by first | exact HT.out | exact HT.out.only ((Only.refl _ _).drew) (by simp))).mono ?_; rintro e w5 ⟨rfl, ho⟩; (first | (replace ho := undrew ho) | skip); replace HMB := hide (HMB.out.only ho (by simp)); replace HRB := hide (HRB.out.only ho (by simp)); replace HT := hide (HT.out.only ho (by simp)); replace HO := hide (HO.out.trans ho); clear ho; (first | (clear m0 m1 m2 m3 m4 m5 m6 m7 m8 m9 m10 m11 m12) | skip); have mf := HMB.out.frozen; have m0 := HMB.out.cell 0; have m1 := HMB.out.cell 1; have m2 := HMB.out.cell 2; have m3 := HMB.out.cell 3; have m4 := HMB.out.cell 4; have m5 := HMB.out.cell 5; have m6 := HMB.out.cell 6; have m7 := HMB.out.cell 7; have m8 := HMB.out.cell 8; have m9 := HMB.out.cell 9; have m10 := HMB.out.cell 10; have m11 := HMB.out.cell 11; have m12 := HMB.out.cell 12; simp at m0 m1 m2 m3 m4 m5 m6 m7 m8 m9 m10 m11 m12; (first | (clear r0 r1 r2 r3 r4 r5 r6 r7 r8 r9 r10 r11 r12 rf) | skip); have r0 := HRB.out.cell 0; have r1 := HRB.out.cell 1; have r2 := HRB.out.cell 2; have r3 := HRB.out.cell 3; have r4 := HRB.out.cell 4; have r5 := HRB.out.cell 5; have r6 := HRB.out.cell 6; have r7 := HRB.out.cell 7; have r8 := HRB.out.cell 8; have r9 := HRB.out.cell 9; have r10 := HRB.out.cell 10; have r11 := HRB.out.cell 11; have r12 := HRB.out.cell 12; simp at r0 r1 r2 r3 r4 r5 r6 r7 r8 r9 r10 r11 r12; have rf := HRB.out.frozen) | (go_at_call 52; refine (HSM.out _ (by first | exact HT.out | exact HT.out.only ((Only.refl _ _).drew) (by simp))).mono ?_; rintro e w6 ⟨rfl, ho⟩; (first | (replace ho := undrew ho) | skip); replace HMB := hide (HMB.out.only ho (by simp)); replace HRB := hide (HRB.out.only ho (by simp)); replace HT := hide (HT.out.only ho (by simp)); replace HO := hide (HO.out.trans ho); clear ho; (first | (clear m0 m1 m2 m3 m4 m5 m6 m7 m8 m9 m10 m11 m12) | skip); have mf := HMB.out.frozen; have m0 := HMB.out.cell 0; have m1 := HMB.out.cell 1; have m2 := HMB.out.cell 2; have m3 := HMB.out.cell 3; have m4 := HMB.out.cell 4; have m5 := HMB.out.cell 5; have m6 := HMB.out.cell 6; have m7 := HMB.out.cell 7; have m8 := HMB.out.cell 8; have m9 := HMB.out.cell 9; have m10 := HMB.out.cell 10; have m11 := HMB.out.cell 11; have m12 := HMB.out.cell 12; simp at m0 m1 m2 m3 m4 m5 m6 m7 m8 m9 m10 m11 m12; (first | (clear r0 r1 r2 r3 r4 r5 r6 r7 r8 r9 r10 r11 r12 rf) | skip); have r0 := HRB.out.cell 0; have r1 := HRB.out.cell 1; have r2 := HRB.out.cell 2; have r3 := HRB.out.cell 3; have r4 := HRB.out.cell 4; have r5 := HRB.out.cell 5; have r6 := HRB.out.cell 6; have r7 := HRB.out.cell 7; have r8 := HRB.out.cell 8; have r9 := HRB.out.cell 9; have r10 := HRB.out.cell 10; have r11 := HRB.out.cell 11; have r12 := HRB.out.cell 12; simp at r0 r1 r2 r3 r4 r5 r6 r7 r8 r9 r10 r11 r12; have rf := HRB.out.frozen))
  all_goals
    have ho := ((Only.refl [w.heap.size] w6).setCell (p := ⟨w.heap.size, 11, none⟩) (.inl (by simp)) (.string s1)).setCell (p := ⟨w.heap.size, 12, none⟩) (.inl (by simp)) (.string ⟨#[48]⟩)
    replace HMB := hide (show Blk ((w6.setCell ⟨w.heap.size, 11, none⟩ (.string s1)).setCell ⟨w.heap.size, 12, none⟩ (.string ⟨#[48]⟩)) w.heap.size 25 #[.int .i64 k, .int .u32 (s : Nat), .int .u32 (r : Nat), .int .u64 (c : Nat), .string x4, .string x5, .string x6, .string x7, .string x8, .string x9, .string x10, .string s1, .string ⟨#[48]⟩] from (by have h := (HMB.out.set_ 11 (.string s1)).set_ 12 (.string ⟨#[48]⟩); simp only [List.setIfInBounds_toArray, List.set_cons_zero, List.set_cons_succ] at h; exact h))
    replace HRB := hide (HRB.out.only ho (by simp))
    replace HO := hide ((HO.out.mono (S' := [w.heap.size]) (by simp)).trans ho |>.mono (S' := []) (by simp))
    replace HT := hide (HTW.out.only HO.out (by simp))
    clear ho
    generalize ((w6.setCell ⟨w.heap.size, 11, none⟩ (.string s1)).setCell ⟨w.heap.size, 12, none⟩ (.string ⟨#[48]⟩)) = w7 at *
    clear m0 m1 m2 m3 m4 m5 m6 m7 m8 m9 m10 m11 m12 mf
    have mf := HMB.out.frozen
    have m0 := HMB.out.cell 0
    have m1 := HMB.out.cell 1
    have m2 := HMB.out.cell 2
    have m3 := HMB.out.cell 3
    have m4 := HMB.out.cell 4
    have m5 := HMB.out.cell 5
    have m6 := HMB.out.cell 6
    have m7 := HMB.out.cell 7
    have m8 := HMB.out.cell 8
    have m9 := HMB.out.cell 9
    have m10 := HMB.out.cell 10
    have m11 := HMB.out.cell 11
    have m12 := HMB.out.cell 12
    simp at m0 m1 m2 m3 m4 m5 m6 m7 m8 m9 m10 m11 m12
    clear r0 r1 r2 r3 r4 r5 r6 r7 r8 r9 r10 r11 r12 rf
    have r0 := HRB.out.cell 0
    have r1 := HRB.out.cell 1
    have r2 := HRB.out.cell 2
    have r3 := HRB.out.cell 3
    have r4 := HRB.out.cell 4
    have r5 := HRB.out.cell 5
    have r6 := HRB.out.cell 6
    have r7 := HRB.out.cell 7
    have r8 := HRB.out.cell 8
    have r9 := HRB.out.cell 9
    have r10 := HRB.out.cell 10
    have r11 := HRB.out.cell 11
    have r12 := HRB.out.cell 12
    simp at r0 r1 r2 r3 r4 r5 r6 r7 r8 r9 r10 r11 r12
    have rf := HRB.out.frozen
    go_wp2_with (go_at_call 56; refine (HTM.out _).mono ?_; rintro e w9 ⟨ho, v, rfl, hrd⟩; obtain ⟨A, cap, hv, hcc, hmm⟩ := hrd.form; replace hv : v = .slice A n cap := (by rw [HN.out, hv]; simp [strc]); subst hv; clear hrd hcc hmm; replace HMB := hide (HMB.out.only ho (by simp)); replace HRB := hide (HRB.out.only ho (by simp)); replace HT := hide (HT.out.only ho (by simp)); replace HO := hide (HO.out.trans ho); clear ho; (first | (clear m0 m1 m2 m3 m4 m5 m6 m7 m8 m9 m10 m11 m12) | skip); have mf := HMB.out.frozen; have m0 := HMB.out.cell 0; have m1 := HMB.out.cell 1; have m2 := HMB.out.cell 2; have m3 := HMB.out.cell 3; have m4 := HMB.out.cell 4; have m5 := HMB.out.cell 5; have m6 := HMB.out.cell 6; have m7 := HMB.out.cell 7; have m8 := HMB.out.cell 8; have m9 := HMB.out.cell 9; have m10 := HMB.out.cell 10; have m11 := HMB.out.cell 11; have m12 := HMB.out.cell 12; simp at m0 m1 m2 m3 m4 m5 m6 m7 m8 m9 m10 m11 m12; (first | (clear r0 r1 r2 r3 r4 r5 r6 r7 r8 r9 r10 r11 r12 rf) | skip); have r0 := HRB.out.cell 0; have r1 := HRB.out.cell 1; have r2 := HRB.out.cell 2; have r3 := HRB.out.cell 3; have r4 := HRB.out.cell 4; have r5 := HRB.out.cell 5; have r6 := HRB.out.cell 6; have r7 := HRB.out.cell 7; have r8 := HRB.out.cell 8; have r9 := HRB.out.cell 9; have r10 := HRB.out.cell 10; have r11 := HRB.out.cell 11; have r12 := HRB.out.cell 12; simp at r0 r1 r2 r3 r4 r5 r6 r7 r8 r9 r10 r11 r12; have rf := HRB.out.frozen)
    refine bodyPost_ret (results_cell_two rfl _ _ (w.heap.size + 1) 25 _ (0, 0) _ rfl (set13 HRB.out (.int .i64 k) (.int .u32 (s : Nat)) (.int .u32 (r : Nat)) (.int .u64 (c : Nat)) (.string x4) (.string x5) (.string x6) (.string x7) (.string x8) (.string x9) (.string x10) (.string s1) (.string ⟨#[48]⟩)) Tryz.underlying25 rfl (by kernel_rfl)) rfl ?_
    exact signpost HV.out (only13 HO.out (.inr (by omega)) (.int .i64 k) (.int .u32 (s : Nat)) (.int .u32 (r : Nat)) (.int .u64 (c : Nat)) (.string x4) (.string x5) (.string x6) (.string x7) (.string x8) (.string x9) (.string x10) (.string s1) (.string ⟨#[48]⟩))
end
end Go.Proofs.YtfipdjlalfpbnaaGreatDoor

/-
  Walks and plain words (texts Ms0). No condition beyond those that each theorem states.
-/
import Derived.Test.YtcokjoidpnfjhaaGreatDoorA21
namespace Go.Proofs.YtcokjoidpnfjhaaGreatDoor
section
open Go.RowKit Go.Deep

set_option maxRecDepth 100000 in
set_option maxHeartbeats 12800000 in
theorem Sign_yes (w : World) (m : Mg) (p c2 : ByteArray) (hF : m.Fine) (hk0 : -9223372036854775808 ≤ m.k) (hp : p.size ≤ maxLen) (hc : c2.size ≤ maxLen) (htab : Tab w) (hb : okSign m p c2 = true) (hce : ¬ c2 = ByteArray.empty) (hck : kindT c2 ≠ 0) :
    Calls Tryz.prog 132 #[.agg m.cells, .string p, .string c2] w (SignPost (signMV m p c2) w) := by
  have HVY := hide (fun (hR : rightM (sign2 m p c2) = true) => show signMV m p c2 = (0, sign2 m p c2) by unfold signMV; rw [hb, if_pos rfl, if_pos hR])
  have HVN := hide (fun (hR : rightM (sign2 m p c2) = false) => show signMV m p c2 = (5, zeroG) by unfold signMV; rw [hb, if_pos rfl, if_neg (by rw [hR]; decide)])
  have HST := hide (fun W => starts_any W m hF hk0)
  unfold RetB at HST
  have HKP := hide (fun W => Kind_any W p hp)
  have HKC := hide (fun W => Kind_any W c2 hc)
  unfold KindPost at HKP HKC
  have HTM := hide (fun W => Terms_any W (sign2 m p c2) (sign2_fine hF p c2))
  unfold TermsPost at HTM
  have HTL := hide (fun (h : rightM (sign2 m p c2) = true) => texts_pos h)
  have HBD := hide (fun W ht => Body_any W m hF ht)
  have HDR := hide (fun W ht => door_any W p hp ht)
  have HSM := hide (fun W ht => sum_any W (doorT p) (bodyM m) (door_size p) (body_size m) ht)
  have HSD := hide (fun W ht => WSigned_any W (sign1 m p) (sign1_fine hF p) ht)
  have HS2 := hide (fun W ht => sum_any W c2 (signedM (sign1 m p)) hc (signed_size _) ht)
  unfold MakePost at HBD HDR HSM HSD HS2
  have h1 : startsM m = true ∧ kindT p = 5 := by unfold okSign at hb; rw [Bool.and_eq_true, Bool.and_eq_true] at hb; exact ⟨hb.1, of_decide_eq_true hb.2.1⟩
  rw [h1.1] at HST
  have e2 : (kindT p != 5) = false := by rw [bne_eq_false_iff_eq]; exact h1.2
  have e2b : kindT p = 5 := h1.2
  rw [e2b] at HKP e2
  have e3 : c2.toList.isEmpty = false := by
    cases h : c2.toList.isEmpty with
    | false => rfl
    | true => exact absurd (toList_inj ((List.isEmpty_iff.1 h).trans (by kernel_rfl))) hce
  have e4 : (kindT c2 == 0) = false := by rw [beq_eq_false_iff_ne]; exact hck
  have HS := hide (show sign2 m p c2 = ⟨m.k, m.s, m.r, m.c, m.x4, m.x5, m.x6, m.x7, m.x8, m.x9, m.x10, sumT (doorT p) (bodyM m), sumT c2 (signedM (sign1 m p))⟩ by unfold sign2; rw [if_neg hce])
  obtain ⟨rr, hrr⟩ : ∃ r, rightM (sign2 m p c2) = r := ⟨_, rfl⟩
  rw [hrr] at HTM HVY HVN HTL
  obtain ⟨tl, htl⟩ : ∃ l, textsM (sign2 m p c2) = l := ⟨_, rfl⟩
  rw [htl] at HTM HTL
  rw [HS.out] at HVY
  unfold sign1 at HSD HS2 HVY
  have HTM2 : Hid (∀ W, Calls Tryz.prog 109 #[.agg (Mg.mk m.k m.s m.r m.c m.x4 m.x5 m.x6 m.x7 m.x8 m.x9 m.x10 (sumT (doorT p) (bodyM m)) (sumT c2 (signedM ⟨m.k, m.s, m.r, m.c, m.x4, m.x5, m.x6, m.x7, m.x8, m.x9, m.x10, sumT (doorT p) (bodyM m), oneT⟩))).cells] W (fun e w' => Only [] W w' ∧ (if rr = true then ∃ v, e = .returned v ∧ Rd w' [] v (strc tl) else e = .returned (.slice none 0 0)))) := hide (fun W => by have h := HTM.out W; rw [HS.out] at h; exact h)
  clear hb hce h1 e2b HS hck hrr htl HTM
  change Hid (∀ W ht, Calls _ _ _ _ (fun e w' => e = .returned (.string (sumT (doorT p) (bodyM m))) ∧ Only [] W w')) at HSM
  generalize sumT (doorT p) (bodyM m) = s1 at *
  generalize signedM ⟨m.k, m.s, m.r, m.c, m.x4, m.x5, m.x6, m.x7, m.x8, m.x9, m.x10, s1, oneT⟩ = sg at *
  generalize sumT c2 sg = s2 at *
  generalize bodyM m = bd at *
  generalize doorT p = dp at *
  obtain ⟨k, s, r, c, x4, x5, x6, x7, x8, x9, x10, x11, x12⟩ := m
  unfold Mg.cells at HST HTM2 HBD HSD ⊢
  simp only at HST HTM2 HBD HSD HVY HVN ⊢
  unfold oneT at HSD
  have HMB := hide ((Blk.new w 29 #[.int .i64 k, .int .u32 (s : Nat), .int .u32 (r : Nat), .int .u64 (c : Nat), .string x4, .string x5, .string x6, .string x7, .string x8, .string x9, .string x10, .string x11, .string x12]).alloc (.cells #[.int .i64 0, .int .u32 0, .int .u32 0, .int .u64 0, .string ⟨#[]⟩, .string ⟨#[]⟩, .string ⟨#[]⟩, .string ⟨#[]⟩, .string ⟨#[]⟩, .string ⟨#[]⟩, .string ⟨#[]⟩, .string ⟨#[]⟩, .string ⟨#[]⟩] 29))
  have HRB := hide (Blk.new (w.alloc (.cells #[.int .i64 k, .int .u32 (s : Nat), .int .u32 (r : Nat), .int .u64 (c : Nat), .string x4, .string x5, .string x6, .string x7, .string x8, .string x9, .string x10, .string x11, .string x12] 29)) 29 #[.int .i64 0, .int .u32 0, .int .u32 0, .int .u64 0, .string ⟨#[]⟩, .string ⟨#[]⟩, .string ⟨#[]⟩, .string ⟨#[]⟩, .string ⟨#[]⟩, .string ⟨#[]⟩, .string ⟨#[]⟩, .string ⟨#[]⟩, .string ⟨#[]⟩])
  rw [World.size_alloc] at HRB
  have HO := hide (((Only.refl [] w).alloc (.cells #[.int .i64 k, .int .u32 (s : Nat), .int .u32 (r : Nat), .int .u64 (c : Nat), .string x4, .string x5, .string x6, .string x7, .string x8, .string x9, .string x10, .string x11, .string x12] 29)).alloc (.cells #[.int .i64 0, .int .u32 0, .int .u32 0, .int .u64 0, .string ⟨#[]⟩, .string ⟨#[]⟩, .string ⟨#[]⟩, .string ⟨#[]⟩, .string ⟨#[]⟩, .string ⟨#[]⟩, .string ⟨#[]⟩, .string ⟨#[]⟩, .string ⟨#[]⟩] 29))
  have HT := hide (htab.only HO.out (by simp))
  have HTW := hide htab
  clear htab hF hk0
  go_enter Tryz.func132, Tryz.ntmps132
  go_upto_region 1 with fail
  generalize ((w.alloc (.cells #[.int .i64 k, .int .u32 (s : Nat), .int .u32 (r : Nat), .int .u64 (c : Nat), .string x4, .string x5, .string x6, .string x7, .string x8, .string x9, .string x10, .string x11, .string x12] 29)).alloc (.cells #[.int .i64 0, .int .u32 0, .int .u32 0, .int .u64 0, .string ⟨#[]⟩, .string ⟨#[]⟩, .string ⟨#[]⟩, .string ⟨#[]⟩, .string ⟨#[]⟩, .string ⟨#[]⟩, .string ⟨#[]⟩, .string ⟨#[]⟩, .string ⟨#[]⟩] 29)) = v0 at *
  have m0 := HMB.out.cell 0; have m1 := HMB.out.cell 1; have m2 := HMB.out.cell 2; have m3 := HMB.out.cell 3; have m4 := HMB.out.cell 4; have m5 := HMB.out.cell 5; have m6 := HMB.out.cell 6; have m7 := HMB.out.cell 7; have m8 := HMB.out.cell 8; have m9 := HMB.out.cell 9; have m10 := HMB.out.cell 10; have m11 := HMB.out.cell 11; have m12 := HMB.out.cell 12; simp at m0 m1 m2 m3 m4 m5 m6 m7 m8 m9 m10 m11 m12
  have r0 := HRB.out.cell 0; have r1 := HRB.out.cell 1; have r2 := HRB.out.cell 2; have r3 := HRB.out.cell 3; have r4 := HRB.out.cell 4; have r5 := HRB.out.cell 5; have r6 := HRB.out.cell 6; have r7 := HRB.out.cell 7; have r8 := HRB.out.cell 8; have r9 := HRB.out.cell 9; have r10 := HRB.out.cell 10; have r11 := HRB.out.cell 11; have r12 := HRB.out.cell 12; simp at r0 r1 r2 r3 r4 r5 r6 r7 r8 r9 r10 r11 r12; have rf := HRB.out.frozen
  go_upto_region 3 with (first
    | (go_at_call 88; (with_reducible refine (HST.out _).mono ?_); rintro e w1 ⟨rfl, ho⟩; replace HMB := hide (HMB.out.only ho (by simp)); replace HRB := hide (HRB.out.only ho (by simp)); replace HT := hide (HT.out.only ho (by simp)); replace HO := hide (HO.out.trans ho); clear ho; (first | (clear m0 m1 m2 m3 m4 m5 m6 m7 m8 m9 m10 m11 m12) | skip); have mf := HMB.out.frozen; have m0 := HMB.out.cell 0; have m1 := HMB.out.cell 1; have m2 := HMB.out.cell 2; have m3 := HMB.out.cell 3; have m4 := HMB.out.cell 4; have m5 := HMB.out.cell 5; have m6 := HMB.out.cell 6; have m7 := HMB.out.cell 7; have m8 := HMB.out.cell 8; have m9 := HMB.out.cell 9; have m10 := HMB.out.cell 10; have m11 := HMB.out.cell 11; have m12 := HMB.out.cell 12; simp at m0 m1 m2 m3 m4 m5 m6 m7 m8 m9 m10 m11 m12; (first | (clear r0 r1 r2 r3 r4 r5 r6 r7 r8 r9 r10 r11 r12 rf) | skip); have r0 := HRB.out.cell 0; have r1 := HRB.out.cell 1; have r2 := HRB.out.cell 2; have r3 := HRB.out.cell 3; have r4 := HRB.out.cell 4; have r5 := HRB.out.cell 5; have r6 := HRB.out.cell 6; have r7 := HRB.out.cell 7; have r8 := HRB.out.cell 8; have r9 := HRB.out.cell 9; have r10 := HRB.out.cell 10; have r11 := HRB.out.cell 11; have r12 := HRB.out.cell 12; simp at r0 r1 r2 r3 r4 r5 r6 r7 r8 r9 r10 r11 r12; have rf := HRB.out.frozen)
    | (go_at_call 53; (with_reducible refine (HKP.out _).mono ?_); rintro e w2 ⟨rfl, ho⟩; replace HMB := hide (HMB.out.only ho (by simp)); replace HRB := hide (HRB.out.only ho (by simp)); replace HT := hide (HT.out.only ho (by simp)); replace HO := hide (HO.out.trans ho); clear ho; (first | (clear m0 m1 m2 m3 m4 m5 m6 m7 m8 m9 m10 m11 m12) | skip); have mf := HMB.out.frozen; have m0 := HMB.out.cell 0; have m1 := HMB.out.cell 1; have m2 := HMB.out.cell 2; have m3 := HMB.out.cell 3; have m4 := HMB.out.cell 4; have m5 := HMB.out.cell 5; have m6 := HMB.out.cell 6; have m7 := HMB.out.cell 7; have m8 := HMB.out.cell 8; have m9 := HMB.out.cell 9; have m10 := HMB.out.cell 10; have m11 := HMB.out.cell 11; have m12 := HMB.out.cell 12; simp at m0 m1 m2 m3 m4 m5 m6 m7 m8 m9 m10 m11 m12; (first | (clear r0 r1 r2 r3 r4 r5 r6 r7 r8 r9 r10 r11 r12 rf) | skip); have r0 := HRB.out.cell 0; have r1 := HRB.out.cell 1; have r2 := HRB.out.cell 2; have r3 := HRB.out.cell 3; have r4 := HRB.out.cell 4; have r5 := HRB.out.cell 5; have r6 := HRB.out.cell 6; have r7 := HRB.out.cell 7; have r8 := HRB.out.cell 8; have r9 := HRB.out.cell 9; have r10 := HRB.out.cell 10; have r11 := HRB.out.cell 11; have r12 := HRB.out.cell 12; simp at r0 r1 r2 r3 r4 r5 r6 r7 r8 r9 r10 r11 r12; have rf := HRB.out.frozen)
    | (go_at_call 53; (with_reducible refine (HKC.out _).mono ?_); rintro e w3 ⟨rfl, ho⟩; replace HMB := hide (HMB.out.only ho (by simp)); replace HRB := hide (HRB.out.only ho (by simp)); replace HT := hide (HT.out.only ho (by simp)); replace HO := hide (HO.out.trans ho); clear ho; (first | (clear m0 m1 m2 m3 m4 m5 m6 m7 m8 m9 m10 m11 m12) | skip); have mf := HMB.out.frozen; have m0 := HMB.out.cell 0; have m1 := HMB.out.cell 1; have m2 := HMB.out.cell 2; have m3 := HMB.out.cell 3; have m4 := HMB.out.cell 4; have m5 := HMB.out.cell 5; have m6 := HMB.out.cell 6; have m7 := HMB.out.cell 7; have m8 := HMB.out.cell 8; have m9 := HMB.out.cell 9; have m10 := HMB.out.cell 10; have m11 := HMB.out.cell 11; have m12 := HMB.out.cell 12; simp at m0 m1 m2 m3 m4 m5 m6 m7 m8 m9 m10 m11 m12; (first | (clear r0 r1 r2 r3 r4 r5 r6 r7 r8 r9 r10 r11 r12 rf) | skip); have r0 := HRB.out.cell 0; have r1 := HRB.out.cell 1; have r2 := HRB.out.cell 2; have r3 := HRB.out.cell 3; have r4 := HRB.out.cell 4; have r5 := HRB.out.cell 5; have r6 := HRB.out.cell 6; have r7 := HRB.out.cell 7; have r8 := HRB.out.cell 8; have r9 := HRB.out.cell 9; have r10 := HRB.out.cell 10; have r11 := HRB.out.cell 11; have r12 := HRB.out.cell 12; simp at r0 r1 r2 r3 r4 r5 r6 r7 r8 r9 r10 r11 r12; have rf := HRB.out.frozen))
  rename World => v3
  clear HST HKP HKC
  go_cut [] (fun w' => Hid (Blk w' w.heap.size 29 #[.int .i64 k, .int .u32 (s : Nat), .int .u32 (r : Nat), .int .u64 (c : Nat), .string x4, .string x5, .string x6, .string x7, .string x8, .string x9, .string x10, .string s1, .string ⟨#[48]⟩]) ∧ Hid (Blk w' (w.heap.size + 1) 29 #[.int .i64 0, .int .u32 0, .int .u32 0, .int .u64 0, .string ⟨#[]⟩, .string ⟨#[]⟩, .string ⟨#[]⟩, .string ⟨#[]⟩, .string ⟨#[]⟩, .string ⟨#[]⟩, .string ⟨#[]⟩, .string ⟨#[]⟩, .string ⟨#[]⟩]) ∧ Hid (Only [w.heap.size] v3 w'))
  case first =>
    rename_i JJ KK hJJ hKK
    clear r0 r1 r2 r3 r4 r5 r6 r7 r8 r9 r10 r11 r12 rf
    have HP := hide (Only.refl [] v3)
    go_region_with (first
      | (go_at_call 90; refine (HDR.out _ (by first | exact HT.out | exact HT.out.only ((Only.refl _ _).drew) (by simp))).mono ?_; rintro e w4 ⟨rfl, ho⟩; (first | (replace ho := undrew ho) | skip); replace HP := hide (HP.out.trans ho); replace HMB := hide (HMB.out.only ho (by simp)); replace HRB := hide (HRB.out.only ho (by simp)); replace HT := hide (HT.out.only ho (by simp)); replace HO := hide (HO.out.trans ho); clear ho; (first | (clear m0 m1 m2 m3 m4 m5 m6 m7 m8 m9 m10 m11 m12) | skip); have mf := HMB.out.frozen; have m0 := HMB.out.cell 0; have m1 := HMB.out.cell 1; have m2 := HMB.out.cell 2; have m3 := HMB.out.cell 3; have m4 := HMB.out.cell 4; have m5 := HMB.out.cell 5; have m6 := HMB.out.cell 6; have m7 := HMB.out.cell 7; have m8 := HMB.out.cell 8; have m9 := HMB.out.cell 9; have m10 := HMB.out.cell 10; have m11 := HMB.out.cell 11; have m12 := HMB.out.cell 12; simp at m0 m1 m2 m3 m4 m5 m6 m7 m8 m9 m10 m11 m12; (first | (clear r0 r1 r2 r3 r4 r5 r6 r7 r8 r9 r10 r11 r12 rf) | skip))
      | (go_at_call 91; refine (HBD.out _ (by first | exact HT.out | exact HT.out.only ((Only.refl _ _).drew) (by simp))).mono ?_; rintro e w5 ⟨rfl, ho⟩; (first | (replace ho := undrew ho) | skip); replace HP := hide (HP.out.trans ho); replace HMB := hide (HMB.out.only ho (by simp)); replace HRB := hide (HRB.out.only ho (by simp)); replace HT := hide (HT.out.only ho (by simp)); replace HO := hide (HO.out.trans ho); clear ho; (first | (clear m0 m1 m2 m3 m4 m5 m6 m7 m8 m9 m10 m11 m12) | skip); have mf := HMB.out.frozen; have m0 := HMB.out.cell 0; have m1 := HMB.out.cell 1; have m2 := HMB.out.cell 2; have m3 := HMB.out.cell 3; have m4 := HMB.out.cell 4; have m5 := HMB.out.cell 5; have m6 := HMB.out.cell 6; have m7 := HMB.out.cell 7; have m8 := HMB.out.cell 8; have m9 := HMB.out.cell 9; have m10 := HMB.out.cell 10; have m11 := HMB.out.cell 11; have m12 := HMB.out.cell 12; simp at m0 m1 m2 m3 m4 m5 m6 m7 m8 m9 m10 m11 m12; (first | (clear r0 r1 r2 r3 r4 r5 r6 r7 r8 r9 r10 r11 r12 rf) | skip))
      | (go_at_call 190; refine (HSM.out _ (by first | exact HT.out | exact HT.out.only ((Only.refl _ _).drew) (by simp))).mono ?_; rintro e w6 ⟨rfl, ho⟩; (first | (replace ho := undrew ho) | skip); replace HP := hide (HP.out.trans ho); replace HMB := hide (HMB.out.only ho (by simp)); replace HRB := hide (HRB.out.only ho (by simp)); replace HT := hide (HT.out.only ho (by simp)); replace HO := hide (HO.out.trans ho); clear ho; (first | (clear m0 m1 m2 m3 m4 m5 m6 m7 m8 m9 m10 m11 m12) | skip); have mf := HMB.out.frozen; have m0 := HMB.out.cell 0; have m1 := HMB.out.cell 1; have m2 := HMB.out.cell 2; have m3 := HMB.out.cell 3; have m4 := HMB.out.cell 4; have m5 := HMB.out.cell 5; have m6 := HMB.out.cell 6; have m7 := HMB.out.cell 7; have m8 := HMB.out.cell 8; have m9 := HMB.out.cell 9; have m10 := HMB.out.cell 10; have m11 := HMB.out.cell 11; have m12 := HMB.out.cell 12; simp at m0 m1 m2 m3 m4 m5 m6 m7 m8 m9 m10 m11 m12; (first | (clear r0 r1 r2 r3 r4 r5 r6 r7 r8 r9 r10 r11 r12 rf) | skip)))
    all_goals
      (first | (refine hKK _ _ ?_) | (dsimp only [Exit.then]; refine hKK _ _ ?_))
      go_meet
      exact ⟨hide (by have h := (HMB.out.set_ 11 (.string s1)).set_ 12 (.string ⟨#[48]⟩); simp only [List.setIfInBounds_toArray, List.set_cons_zero, List.set_cons_succ] at h; exact h), hide ((HRB.out.far (p := ⟨w.heap.size, 11, none⟩) (by simp) _).far (p := ⟨w.heap.size, 12, none⟩) (by simp) _), hide (((HP.out.mono (S' := [w.heap.size]) (by simp)).setCell (p := ⟨w.heap.size, 11, none⟩) (.inl (by simp)) _).setCell (p := ⟨w.heap.size, 12, none⟩) (.inl (by simp)) _)⟩
  case rest =>
    clear m0 m1 m2 m3 m4 m5 m6 m7 m8 m9 m10 m11 m12 mf r0 r1 r2 r3 r4 r5 r6 r7 r8 r9 r10 r11 r12 rf HMB HRB HDR HBD HSM
    obtain ⟨HMB, HRB, HO2⟩ := hcut
    replace HO := hide (((HO.out.mono (S' := [w.heap.size]) (by simp)).trans HO2.out).mono (S' := []) (by simp))
    replace HT := hide (HTW.out.only HO.out (by simp))
    clear HO2 HTW
    rename World => v4
    have m0 := HMB.out.cell 0
    have m1 := HMB.out.cell 1
    have m2 := HMB.out.cell 2
    have m3 := HMB.out.cell 3
    have m4 := HMB.out.cell 4
    have m5 := HMB.out.cell 5
    have m6 := HMB.out.cell 6
    have m7 := HMB.out.cell 7
    have m8 := HMB.out.cell 8
    have m9 := HMB.out.cell 9
    have m10 := HMB.out.cell 10
    have m11 := HMB.out.cell 11
    have m12 := HMB.out.cell 12
    simp at m0 m1 m2 m3 m4 m5 m6 m7 m8 m9 m10 m11 m12
    have mf := HMB.out.frozen
    have r0 := HRB.out.cell 0
    have r1 := HRB.out.cell 1
    have r2 := HRB.out.cell 2
    have r3 := HRB.out.cell 3
    have r4 := HRB.out.cell 4
    have r5 := HRB.out.cell 5
    have r6 := HRB.out.cell 6
    have r7 := HRB.out.cell 7
    have r8 := HRB.out.cell 8
    have r9 := HRB.out.cell 9
    have r10 := HRB.out.cell 10
    have r11 := HRB.out.cell 11
    have r12 := HRB.out.cell 12
    simp at r0 r1 r2 r3 r4 r5 r6 r7 r8 r9 r10 r11 r12
    have rf := HRB.out.frozen
    go_upto_region 6 with (first
    | (go_at_call 191; (with_reducible refine (HSD.out _ HT.out).mono ?_); rintro e w8 ⟨rfl, ho⟩; replace HMB := hide (HMB.out.only ho (by simp)); replace HRB := hide (HRB.out.only ho (by simp)); replace HT := hide (HT.out.only ho (by simp)); replace HO := hide (HO.out.trans ho); clear ho; (first | (clear m0 m1 m2 m3 m4 m5 m6 m7 m8 m9 m10 m11 m12) | skip); have mf := HMB.out.frozen; have m0 := HMB.out.cell 0; have m1 := HMB.out.cell 1; have m2 := HMB.out.cell 2; have m3 := HMB.out.cell 3; have m4 := HMB.out.cell 4; have m5 := HMB.out.cell 5; have m6 := HMB.out.cell 6; have m7 := HMB.out.cell 7; have m8 := HMB.out.cell 8; have m9 := HMB.out.cell 9; have m10 := HMB.out.cell 10; have m11 := HMB.out.cell 11; have m12 := HMB.out.cell 12; simp at m0 m1 m2 m3 m4 m5 m6 m7 m8 m9 m10 m11 m12; (first | (clear r0 r1 r2 r3 r4 r5 r6 r7 r8 r9 r10 r11 r12 rf) | skip); have r0 := HRB.out.cell 0; have r1 := HRB.out.cell 1; have r2 := HRB.out.cell 2; have r3 := HRB.out.cell 3; have r4 := HRB.out.cell 4; have r5 := HRB.out.cell 5; have r6 := HRB.out.cell 6; have r7 := HRB.out.cell 7; have r8 := HRB.out.cell 8; have r9 := HRB.out.cell 9; have r10 := HRB.out.cell 10; have r11 := HRB.out.cell 11; have r12 := HRB.out.cell 12; simp at r0 r1 r2 r3 r4 r5 r6 r7 r8 r9 r10 r11 r12; have rf := HRB.out.frozen)
    | (go_at_call 190; (with_reducible refine (HS2.out _ HT.out).mono ?_); rintro e w8 ⟨rfl, ho⟩; replace HMB := hide (HMB.out.only ho (by simp)); replace HRB := hide (HRB.out.only ho (by simp)); replace HT := hide (HT.out.only ho (by simp)); replace HO := hide (HO.out.trans ho); clear ho; (first | (clear m0 m1 m2 m3 m4 m5 m6 m7 m8 m9 m10 m11 m12) | skip); have mf := HMB.out.frozen; have m0 := HMB.out.cell 0; have m1 := HMB.out.cell 1; have m2 := HMB.out.cell 2; have m3 := HMB.out.cell 3; have m4 := HMB.out.cell 4; have m5 := HMB.out.cell 5; have m6 := HMB.out.cell 6; have m7 := HMB.out.cell 7; have m8 := HMB.out.cell 8; have m9 := HMB.out.cell 9; have m10 := HMB.out.cell 10; have m11 := HMB.out.cell 11; have m12 := HMB.out.cell 12; simp at m0 m1 m2 m3 m4 m5 m6 m7 m8 m9 m10 m11 m12; (first | (clear r0 r1 r2 r3 r4 r5 r6 r7 r8 r9 r10 r11 r12 rf) | skip); have r0 := HRB.out.cell 0; have r1 := HRB.out.cell 1; have r2 := HRB.out.cell 2; have r3 := HRB.out.cell 3; have r4 := HRB.out.cell 4; have r5 := HRB.out.cell 5; have r6 := HRB.out.cell 6; have r7 := HRB.out.cell 7; have r8 := HRB.out.cell 8; have r9 := HRB.out.cell 9; have r10 := HRB.out.cell 10; have r11 := HRB.out.cell 11; have r12 := HRB.out.cell 12; simp at r0 r1 r2 r3 r4 r5 r6 r7 r8 r9 r10 r11 r12; have rf := HRB.out.frozen))
    rename World => v5
    replace HMB := hide (show Blk _ w.heap.size 29 #[.int .i64 k, .int .u32 (s : Nat), .int .u32 (r : Nat), .int .u64 (c : Nat), .string x4, .string x5, .string x6, .string x7, .string x8, .string x9, .string x10, .string s1, .string s2] from (by have h := HMB.out.set_ 12 (.string s2); simp only [List.setIfInBounds_toArray, List.set_cons_zero, List.set_cons_succ] at h; exact h))
    replace HRB := hide (HRB.out.far (p := ⟨w.heap.size, 12, none⟩) (by simp) (.string s2))
    replace HO := hide (HO.out.setCell (p := ⟨w.heap.size, 12, none⟩) (.inr (Nat.le_refl _)) (.string s2))
    clear m0 m1 m2 m3 m4 m5 m6 m7 m8 m9 m10 m11 m12 mf r0 r1 r2 r3 r4 r5 r6 r7 r8 r9 r10 r11 r12 rf HSD HS2 HT
    generalize (v5.setCell ⟨w.heap.size, 12, none⟩ (.string s2)) = v6 at *
    have m0 := HMB.out.cell 0
    have m1 := HMB.out.cell 1
    have m2 := HMB.out.cell 2
    have m3 := HMB.out.cell 3
    have m4 := HMB.out.cell 4
    have m5 := HMB.out.cell 5
    have m6 := HMB.out.cell 6
    have m7 := HMB.out.cell 7
    have m8 := HMB.out.cell 8
    have m9 := HMB.out.cell 9
    have m10 := HMB.out.cell 10
    have m11 := HMB.out.cell 11
    have m12 := HMB.out.cell 12
    simp at m0 m1 m2 m3 m4 m5 m6 m7 m8 m9 m10 m11 m12
    have mf := HMB.out.frozen
    have r0 := HRB.out.cell 0
    have r1 := HRB.out.cell 1
    have r2 := HRB.out.cell 2
    have r3 := HRB.out.cell 3
    have r4 := HRB.out.cell 4
    have r5 := HRB.out.cell 5
    have r6 := HRB.out.cell 6
    have r7 := HRB.out.cell 7
    have r8 := HRB.out.cell 8
    have r9 := HRB.out.cell 9
    have r10 := HRB.out.cell 10
    have r11 := HRB.out.cell 11
    have r12 := HRB.out.cell 12
    simp at r0 r1 r2 r3 r4 r5 r6 r7 r8 r9 r10 r11 r12
    have rf := HRB.out.frozen
    cases rr with
    | false =>
      have HV := hide (HVN.out rfl)
      simp only [Bool.false_eq_true, if_false] at HTM2
      clear HVN HVY HTL
      go_wp2_with (go_at_call 109; refine (HTM2.out _).mono ?_; rintro e w9 ⟨ho, rfl⟩; replace HMB := hide (HMB.out.only ho (by simp)); replace HRB := hide (HRB.out.only ho (by simp)); replace HO := hide (HO.out.trans ho); clear ho; (first | (clear m0 m1 m2 m3 m4 m5 m6 m7 m8 m9 m10 m11 m12 mf) | skip); have mf := HMB.out.frozen; have m0 := HMB.out.cell 0; have m1 := HMB.out.cell 1; have m2 := HMB.out.cell 2; have m3 := HMB.out.cell 3; have m4 := HMB.out.cell 4; have m5 := HMB.out.cell 5; have m6 := HMB.out.cell 6; have m7 := HMB.out.cell 7; have m8 := HMB.out.cell 8; have m9 := HMB.out.cell 9; have m10 := HMB.out.cell 10; have m11 := HMB.out.cell 11; have m12 := HMB.out.cell 12; simp at m0 m1 m2 m3 m4 m5 m6 m7 m8 m9 m10 m11 m12; (first | (clear r0 r1 r2 r3 r4 r5 r6 r7 r8 r9 r10 r11 r12 rf) | skip); have r0 := HRB.out.cell 0; have r1 := HRB.out.cell 1; have r2 := HRB.out.cell 2; have r3 := HRB.out.cell 3; have r4 := HRB.out.cell 4; have r5 := HRB.out.cell 5; have r6 := HRB.out.cell 6; have r7 := HRB.out.cell 7; have r8 := HRB.out.cell 8; have r9 := HRB.out.cell 9; have r10 := HRB.out.cell 10; have r11 := HRB.out.cell 11; have r12 := HRB.out.cell 12; simp at r0 r1 r2 r3 r4 r5 r6 r7 r8 r9 r10 r11 r12; have rf := HRB.out.frozen)
      refine bodyPost_ret (results_cell_two rfl _ _ (w.heap.size + 1) 29 _ (0, 0) _ rfl (set13 HRB.out (.int .i64 0) (.int .u32 0) (.int .u32 0) (.int .u64 0) (.string ⟨#[]⟩) (.string ⟨#[]⟩) (.string ⟨#[]⟩) (.string ⟨#[]⟩) (.string ⟨#[]⟩) (.string ⟨#[]⟩) (.string ⟨#[]⟩) (.string ⟨#[]⟩) (.string ⟨#[]⟩)) Tryz.underlying29 rfl (by kernel_rfl)) rfl ?_
      exact signpost (HV.out) (only13 HO.out (.inr (by omega)) (.int .i64 0) (.int .u32 0) (.int .u32 0) (.int .u64 0) (.string ⟨#[]⟩) (.string ⟨#[]⟩) (.string ⟨#[]⟩) (.string ⟨#[]⟩) (.string ⟨#[]⟩) (.string ⟨#[]⟩) (.string ⟨#[]⟩) (.string ⟨#[]⟩) (.string ⟨#[]⟩))
    | true =>
      have HV := hide (HVY.out rfl)
      have hn0 := HTL.out rfl
      simp only [if_true] at HTM2
      clear HVN HVY HTL
      obtain ⟨n, hn⟩ : ∃ n, n = tl.length := ⟨_, rfl⟩
      have hnz : ((n : Int) == 0) = false := by rw [beq_eq_false_iff_ne]; omega
      have HN := hide hn
      clear hn hn0
      go_wp2_with (go_at_call 109; refine (HTM2.out _).mono ?_; rintro e w9 ⟨ho, v, rfl, hrd⟩; obtain ⟨A, cap, hv, hcc, hmm⟩ := hrd.form; replace hv : v = .slice A n cap := (by rw [HN.out, hv]; simp [strc]); subst hv; clear hrd hcc hmm; replace HMB := hide (HMB.out.only ho (by simp)); replace HRB := hide (HRB.out.only ho (by simp)); replace HO := hide (HO.out.trans ho); clear ho; (first | (clear m0 m1 m2 m3 m4 m5 m6 m7 m8 m9 m10 m11 m12 mf) | skip); have mf := HMB.out.frozen; have m0 := HMB.out.cell 0; have m1 := HMB.out.cell 1; have m2 := HMB.out.cell 2; have m3 := HMB.out.cell 3; have m4 := HMB.out.cell 4; have m5 := HMB.out.cell 5; have m6 := HMB.out.cell 6; have m7 := HMB.out.cell 7; have m8 := HMB.out.cell 8; have m9 := HMB.out.cell 9; have m10 := HMB.out.cell 10; have m11 := HMB.out.cell 11; have m12 := HMB.out.cell 12; simp at m0 m1 m2 m3 m4 m5 m6 m7 m8 m9 m10 m11 m12; (first | (clear r0 r1 r2 r3 r4 r5 r6 r7 r8 r9 r10 r11 r12 rf) | skip); have r0 := HRB.out.cell 0; have r1 := HRB.out.cell 1; have r2 := HRB.out.cell 2; have r3 := HRB.out.cell 3; have r4 := HRB.out.cell 4; have r5 := HRB.out.cell 5; have r6 := HRB.out.cell 6; have r7 := HRB.out.cell 7; have r8 := HRB.out.cell 8; have r9 := HRB.out.cell 9; have r10 := HRB.out.cell 10; have r11 := HRB.out.cell 11; have r12 := HRB.out.cell 12; simp at r0 r1 r2 r3 r4 r5 r6 r7 r8 r9 r10 r11 r12; have rf := HRB.out.frozen)
      refine bodyPost_ret (results_cell_two rfl _ _ (w.heap.size + 1) 29 _ (0, 0) _ rfl (set13 HRB.out (.int .i64 k) (.int .u32 (s : Nat)) (.int .u32 (r : Nat)) (.int .u64 (c : Nat)) (.string x4) (.string x5) (.string x6) (.string x7) (.string x8) (.string x9) (.string x10) (.string s1) (.string s2)) Tryz.underlying29 rfl (by kernel_rfl)) rfl ?_
      exact signpost (HV.out) (only13 HO.out (.inr (by omega)) (.int .i64 k) (.int .u32 (s : Nat)) (.int .u32 (r : Nat)) (.int .u64 (c : Nat)) (.string x4) (.string x5) (.string x6) (.string x7) (.string x8) (.string x9) (.string x10) (.string s1) (.string s2))
end
end Go.Proofs.YtcokjoidpnfjhaaGreatDoor

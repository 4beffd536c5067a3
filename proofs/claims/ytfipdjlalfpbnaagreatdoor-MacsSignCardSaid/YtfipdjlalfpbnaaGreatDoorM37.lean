/-
  Walks and plain words (texts Mc4b, Wn, Mc5, Hv). No condition beyond those that each theorem states.
-/
import Derived.Test.YtfipdjlalfpbnaaGreatDoorM06
import Derived.Test.YtfipdjlalfpbnaaGreatDoorM11
import Derived.Test.YtfipdjlalfpbnaaGreatDoorM32
import Derived.Test.YtfipdjlalfpbnaaGreatDoorM34
import Derived.Test.YtfipdjlalfpbnaaGreatDoorM36
namespace Go.Proofs.YtfipdjlalfpbnaaGreatDoor
section
open Go.RowKit Go.Deep

set_option maxRecDepth 100000 in
set_option maxHeartbeats 12800000 in
theorem Sign_nol (w : World) (m : Mg) (p c2 : ByteArray) (hF : m.Fine) (hk0 : -9223372036854775808 ≤ m.k) (hp : p.size ≤ maxLen) (hc : c2.size ≤ maxLen) (htab : Tab w) (hb : okSign m p c2 = true) (hce : c2 = ByteArray.empty) (hR : rightM (sign2 m p c2) = false) :
    Calls Tryz.prog 12 #[.agg m.cells, .string p, .string c2] w (SignPost (signMV m p c2) w) := by
  have HV := hide (show signMV m p c2 = (5, zeroG) by unfold signMV; rw [hb, if_pos rfl, if_neg (by rw [hR]; decide)])
  have HST := hide (fun W => starts_any W m hF hk0)
  unfold RetB at HST
  have HKP := hide (fun W => Kind_any W p hp)
  have HKC := hide (fun W => Kind_any W c2 hc)
  unfold KindPost at HKP HKC
  have HTM := hide (fun W => Terms_any W (sign2 m p c2) (sign2_fine hF p c2))
  unfold TermsPost at HTM
  simp only [hR, Bool.false_eq_true, if_false] at HTM
  have HBD := hide (fun W ht => Body_any W m hF ht)
  have HDR := hide (fun W ht => door_any W p hp ht)
  have HSM := hide (fun W ht => sum_any W (doorT p) (bodyM m) (door_size p) (body_size m) ht)
  unfold MakePost at HBD HDR HSM
  have h1 : startsM m = true ∧ kindT p = 5 := by unfold okSign at hb; rw [Bool.and_eq_true, Bool.and_eq_true] at hb; exact ⟨hb.1, of_decide_eq_true hb.2.1⟩
  rw [h1.1] at HST
  have e2 : (kindT p != 5) = false := by rw [bne_eq_false_iff_eq]; exact h1.2
  have e2b : kindT p = 5 := h1.2
  rw [e2b] at HKP e2
  have e3 : c2.toList.isEmpty = true := by rw [hce]; kernel_rfl
  have HS := hide (show sign2 m p c2 = sign1 m p by unfold sign2; rw [if_pos hce])
  rw [HS.out] at HTM
  unfold sign1 at HTM
  clear hb hR hce h1 e2b HS
  change Hid (∀ W ht, Calls _ _ _ _ (fun e w' => e = .returned (.string (sumT (doorT p) (bodyM m))) ∧ Only [] W w')) at HSM
  generalize sumT (doorT p) (bodyM m) = s1 at *
  generalize bodyM m = bd at *
  generalize doorT p = dp at *
  obtain ⟨k, s, r, c, x4, x5, x6, x7, x8, x9, x10, x11, x12⟩ := m
  unfold Mg.cells at HST HTM HBD ⊢
  simp only at HST HTM HBD HV ⊢
  have HMB := hide ((Blk.new w 25 #[.int .i64 k, .int .u32 (s : Nat), .int .u32 (r : Nat), .int .u64 (c : Nat), .string x4, .string x5, .string x6, .string x7, .string x8, .string x9, .string x10, .string x11, .string x12]).alloc (.cells #[.int .i64 0, .int .u32 0, .int .u32 0, .int .u64 0, .string ⟨#[]⟩, .string ⟨#[]⟩, .string ⟨#[]⟩, .string ⟨#[]⟩, .string ⟨#[]⟩, .string ⟨#[]⟩, .string ⟨#[]⟩, .string ⟨#[]⟩, .string ⟨#[]⟩] 25))
  have HRB := hide (Blk.new (w.alloc (.cells #[.int .i64 k, .int .u32 (s : Nat), .int .u32 (r : Nat), .int .u64 (c : Nat), .string x4, .string x5, .string x6, .string x7, .string x8, .string x9, .string x10, .string x11, .string x12] 25)) 25 #[.int .i64 0, .int .u32 0, .int .u32 0, .int .u64 0, .string ⟨#[]⟩, .string ⟨#[]⟩, .string ⟨#[]⟩, .string ⟨#[]⟩, .string ⟨#[]⟩, .string ⟨#[]⟩, .string ⟨#[]⟩, .string ⟨#[]⟩, .string ⟨#[]⟩])
  rw [World.size_alloc] at HRB
  have HO := hide (((Only.refl [] w).alloc (.cells #[.int .i64 k, .int .u32 (s : Nat), .int .u32 (r : Nat), .int .u64 (c : Nat), .string x4, .string x5, .string x6, .string x7, .string x8, .string x9, .string x10, .string x11, .string x12] 25)).alloc (.cells #[.int .i64 0, .int .u32 0, .int .u32 0, .int .u64 0, .string ⟨#[]⟩, .string ⟨#[]⟩, .string ⟨#[]⟩, .string ⟨#[]⟩, .string ⟨#[]⟩, .string ⟨#[]⟩, .string ⟨#[]⟩, .string ⟨#[]⟩, .string ⟨#[]⟩] 25))
  have HT := hide (htab.only HO.out (by simp))
  have HTW := hide htab
  clear htab hF hk0
  go_enter Tryz.func12, Tryz.ntmps12
  go_upto_region 1 with fail
  generalize ((w.alloc (.cells #[.int .i64 k, .int .u32 (s : Nat), .int .u32 (r : Nat), .int .u64 (c : Nat), .string x4, .string x5, .string x6, .string x7, .string x8, .string x9, .string x10, .string x11, .string x12] 25)).alloc (.cells #[.int .i64 0, .int .u32 0, .int .u32 0, .int .u64 0, .string ⟨#[]⟩, .string ⟨#[]⟩, .string ⟨#[]⟩, .string ⟨#[]⟩, .string ⟨#[]⟩, .string ⟨#[]⟩, .string ⟨#[]⟩, .string ⟨#[]⟩, .string ⟨#[]⟩] 25)) = v0 at *
  have m0 := HMB.out.cell 0; have m1 := HMB.out.cell 1; have m2 := HMB.out.cell 2; have m3 := HMB.out.cell 3; have m4 := HMB.out.cell 4; have m5 := HMB.out.cell 5; have m6 := HMB.out.cell 6; have m7 := HMB.out.cell 7; have m8 := HMB.out.cell 8; have m9 := HMB.out.cell 9; have m10 := HMB.out.cell 10; have m11 := HMB.out.cell 11; have m12 := HMB.out.cell 12; simp at m0 m1 m2 m3 m4 m5 m6 m7 m8 m9 m10 m11 m12
  have r0 := HRB.out.cell 0; have r1 := HRB.out.cell 1; have r2 := HRB.out.cell 2; have r3 := HRB.out.cell 3; have r4 := HRB.out.cell 4; have r5 := HRB.out.cell 5; have r6 := HRB.out.cell 6; have r7 := HRB.out.cell 7; have r8 := HRB.out.cell 8; have r9 := HRB.out.cell 9; have r10 := HRB.out.cell 10; have r11 := HRB.out.cell 11; have r12 := HRB.out.cell 12; simp at r0 r1 r2 r3 r4 r5 r6 r7 r8 r9 r10 r11 r12; have rf := HRB.out.frozen
  go_wp2_with (first | (go_at_call 50; (with_reducible refine (HST.out _).mono ?_); rintro e w1 ⟨rfl, ho⟩; replace HMB := hide (HMB.out.only ho (by simp)); replace HRB := hide (HRB.out.only ho (by simp)); replace HT := hide (HT.out.only ho (by simp)); replace HO := hide (HO.out.trans ho); clear ho; (first | (clear m0 m1 m2 m3 m4 m5 m6 m7 m8 m9 m10 m11 m12) | skip); have mf := HMB.out.frozen; have m0 := HMB.out.cell 0; have m1 := HMB.out.cell 1; have m2 := HMB.out.cell 2; have m3 := HMB.out.cell 3; have m4 := HMB.out.cell 4; have m5 := HMB.out.cell 5; have m6 := HMB.out.cell 6; have m7 := HMB.out.cell 7; have m8 := HMB.out.cell 8; have m9 := HMB.out.cell 9; have m10 := HMB.out.cell 10; have m11 := HMB.out.cell 11; have m12 := HMB.out.cell 12; simp at m0 m1 m2 m3 m4 m5 m6 m7 m8 m9 m10 m11 m12; (first | (clear r0 r1 r2 r3 r4 r5 r6 r7 r8 r9 r10 r11 r12 rf) | skip); have r0 := HRB.out.cell 0; have r1 := HRB.out.cell 1; have r2 := HRB.out.cell 2; have r3 := HRB.out.cell 3; have r4 := HRB.out.cell 4; have r5 := HRB.out.cell 5; have r6 := HRB.out.cell 6; have r7 := HRB.out.cell 7; have r8 := HRB.out.cell 8; have r9 := HRB.out.cell 9; have r10 := HRB.out.cell 10; have r11 := HRB.out.cell 11; have r12 := HRB.out.cell 12; simp at r0 r1 r2 r3 r4 r5 r6 r7 r8 r9 r10 r11 r12; have rf := HRB.out.frozen) | (go_at_call 51; (with_reducible refine (HKP.out _).mono ?_); rintro e w2 ⟨rfl, ho⟩; replace HMB := hide (HMB.out.only ho (by simp)); replace HRB := hide (HRB.out.only ho (by simp)); replace HT := hide (HT.out.only ho (by simp)); replace HO := hide (HO.out.trans ho); clear ho; (first | (clear m0 m1 m2 m3 m4 m5 m6 m7 m8 m9 m10 m11 m12) | skip); have mf := HMB.out.frozen; have m0 := HMB.out.cell 0; have m1 := HMB.out.cell 1; have m2 := HMB.out.cell 2; have m3 := HMB.out.cell 3; have m4 := HMB.out.cell 4; have m5 := HMB.out.cell 5; have m6 := HMB.out.cell 6; have m7 := HMB.out.cell 7; have m8 := HMB.out.cell 8; have m9 := HMB.out.cell 9; have m10 := HMB.out.cell 10; have m11 := HMB.out.cell 11; have m12 := HMB.out.cell 12; simp at m0 m1 m2 m3 m4 m5 m6 m7 m8 m9 m10 m11 m12; (first | (clear r0 r1 r2 r3 r4 r5 r6 r7 r8 r9 r10 r11 r12 rf) | skip); have r0 := HRB.out.cell 0; have r1 := HRB.out.cell 1; have r2 := HRB.out.cell 2; have r3 := HRB.out.cell 3; have r4 := HRB.out.cell 4; have r5 := HRB.out.cell 5; have r6 := HRB.out.cell 6; have r7 := HRB.out.cell 7; have r8 := HRB.out.cell 8; have r9 := HRB.out.cell 9; have r10 := HRB.out.cell 10; have r11 := HRB.out.cell 11; have r12 := HRB.out.cell 12; simp at r0 r1 r2 r3 r4 r5 r6 r7 r8 r9 r10 r11 r12; have rf := HRB.out.frozen) | (go_at_call 51; (with_reducible refine (HKC.out _).mono ?_); rintro e w3 ⟨rfl, ho⟩; replace HMB := hide (HMB.out.only ho (by simp)); replace HRB := hide (HRB.out.only ho (by simp)); replace HT := hide (HT.out.only ho (by simp)); replace HO := hide (HO.out.trans ho); clear ho; (first | (clear m0 m1 m2 m3 m4 m5 m6 m7 m8 m9 m10 m11 m12) | skip); have mf := HMB.out.frozen; have m0 := HMB.out.cell 0; have m1 := HMB.out.cell 1; have m2 := HMB.out.cell 2; have m3 := HMB.out.cell 3; have m4 := HMB.out.cell 4; have m5 := HMB.out.cell 5; have m6 := HMB.out.cell 6; have m7 := HMB.out.cell 7; have m8 := HMB.out.cell 8; have m9 := HMB.out.cell 9; have m10 := HMB.out.cell 10; have m11 := HMB.out.cell 11; have m12 := HMB.out.cell 12; simp at m0 m1 m2 m3 m4 m5 m6 m7 m8 m9 m10 m11 m12; (first | (clear r0 r1 r2 r3 r4 r5 r6 r7 r8 r9 r10 r11 r12 rf) | skip); have r0 := HRB.out.cell 0; have r1 := HRB.out.cell 1; have r2 := HRB.out.cell 2; have r3 := HRB.out.cell 3; have r4 := HRB.out.cell 4; have r5 := HRB.out.cell 5; have r6 := HRB.out.cell 6; have r7 := HRB.out.cell 7; have r8 := HRB.out.cell 8; have r9 := HRB.out.cell 9; have r10 := HRB.out.cell 10; have r11 := HRB.out.cell 11; have r12 := HRB.out.cell 12; simp at r0 r1 r2 r3 r4 r5 r6 r7 r8 r9 r10 r11 r12; have rf := HRB.out.frozen))
  go_region_with (first | (go_at_call 53; refine (HDR.out _ (by first | exact HT.out | exact HT.out.only ((Only.refl _ _).drew) (by simp))).mono ?_; rintro e w4 ⟨rfl, ho⟩; (first | (replace ho := undrew ho) | skip); replace HMB := hide (HMB.out.only ho (by simp)); replace HRB := hide (HRB.out.only ho (by simp)); replace HT := hide (HT.out.only ho (by simp)); replace HO := hide (HO.out.trans ho); clear ho; (first | (clear m0 m1 m2 m3 m4 m5 m6 m7 m8 m9 m10 m11 m12) | skip); have mf := HMB.out.frozen; have m0 := HMB.out.cell 0; have m1 := HMB.out.cell 1; have m2 := HMB.out.cell 2; have m3 := HMB.out.cell 3; have m4 := HMB.out.cell 4; have m5 := HMB.out.cell 5; have m6 := HMB.out.cell 6; have m7 := HMB.out.cell 7; have m8 := HMB.out.cell 8; have m9 := HMB.out.cell 9; have m10 := HMB.out.cell 10; have m11 := HMB.out.cell 11; have m12 := HMB.out.cell 12; simp at m0 m1 m2 m3 m4 m5 m6 m7 m8 m9 m10 m11 m12; (first | (clear r0 r1 r2 r3 r4 r5 r6 r7 r8 r9 r10 r11 r12 rf) | skip); have r0 := HRB.out.cell 0; have r1 := HRB.out.cell 1; have r2 := HRB.out.cell 2; have r3 := HRB.out.cell 3; have r4 := HRB.out.cell 4; have r5 := HRB.out.cell 5; have r6 := HRB.out.cell 6; have r7 := HRB.out.cell 7; have r8 := HRB.out.cell 8; have r9 := HRB.out.cell 9; have r10 := HRB.out.cell 10; have r11 := HRB.out.cell 11; have r12 := HRB.out.cell 12; simp at r0 r1 r2 r3 r4 r5 r6 r7 r8 r9 r10 r11 r12; have rf := HRB.out.frozen) | (go_at_call 54; refine (HBD.out _ (by first | exact HT.out | exact HT.out.only ((Only.refl _ _).drew) (by simp))).mono ?_; rintro e w5 ⟨rfl, ho⟩; (first | (replace ho := undrew ho) | skip); replace HMB := hide (HMB.out.only ho (by simp)); replace HRB := hide (HRB.out.only ho (by simp)); replace HT := hide (HT.out.only ho (by simp)); replace HO := hide (HO.out.trans ho); clear ho; (first | (clear m0 m1 m2 m3 m4 m5 m6 m7 m8 m9 m10 m11 m12) | skip); have mf := HMB.out.frozen; have m0 := HMB.out.cell 0; have m1 := HMB.out.cell 1; have m2 := HMB.out.cell 2; have m3 := HMB.out.cell 3; have m4 := HMB.out.cell 4; have m5 := HMB.out.cell 5; have m6 := HMB.out.cell 6; have m7 := HMB.out.cell 7; have m8 := HMB.out.cell 8; have m9 := HMB.out.cell 9; have m10 := HMB.out.cell 10; have m11 := HMB.out.cell 11; have m12 := HMB.out.cell 12; simp at m0 m1 m2 m3 m4 m5 m6 m7 m8 m9 m10 m11 m12; (first | (clear r0 r1 r2 r3 r4 r5 r6 r7 r8 r9 r10 r11 r12 rf) | skip); have r0 := HRB.out.cell 0; have r1 := HRB.out.cell 1; have r2 := HRB.out.cell 2; have r3 := HRB.out.cell 3; have r4 := HRB.out.cell 4; have r5 := HRB.out.cell 5; have r6 := HRB.out.cell 6; have r7 := HRB.out.cell 7; have r8 := HRB.out.cell 8; have r9 := HRB.out.cell 9; have r10 := HRB.out.cell 10; have r11 := HRB.out.cell 11; have r12 := HRB.out.cell 12; simp at r0 r1 r2 r3 r4 r5 r6 r7 r8 r9 r10 r11 r12; have rf := HRB.out.frozen) | (go_at_call 52; refine (HSM.out _ (by first | exact HT.out | exact HT.out.only ((Only.refl _ _).drew) (by simp))).mono ?_; rintro e w6 ⟨rfl, ho⟩; (first | (replace ho := undrew ho) | skip); replace HMB := hide (HMB.out.only ho (by simp)); replace HRB := hide (HRB.out.only ho (by simp)); replace HT := hide (HT.out.only ho (by simp)); replace HO := hide (HO.out.trans ho); clear ho; (first | (clear m0 m1 m2 m3 m4 m5 m6 m7 m8 m9 m10 m11 m12) | skip); have mf := HMB.out.frozen; have m0 := HMB.out.cell 0; have m1 := HMB.out.cell 1; have m2 := HMB.out.cell 2; have m3 := HMB.out.cell 3; have m4 := HMB.out.cell 4; have m5 := HMB.out.cell 5; have m6 := HMB.out.cell 6; have m7 := HMB.out.cell 7; have m8 := HMB.out.cell 8; have m9 := HMB.out.cell 9; have m10 := HMB.out.cell 10; have m11 := HMB.out.cell 11; have m12 := HMB.out.cell 12; simp at m0 m1 m2 m3 m4 m5 m6 m7 m8 m9 m10 m11 m12; (first | (clear r0 r1 r2 r3 r4 r5 r6 r7 r8 r9 r10 r11 r12 rf) | skip); have r0 := HRB.out.cell 0; have r1 := HRB.out.cell 1; have r2 := HRB.out.cell 2; have r3 := HRB.out.cell 3; have r4 := HRB.out.cell 4; have r5 := HRB.out.cell 5; have r6 := HRB.out.cell 6; have r7 := HRB.out.cell 7; have r8 := HRB.out.cell 8; have r9 := HRB.out.cell 9; have r10 := HRB.out.cell 10; have r11 := HRB.out.cell 11; have r12 := HRB.out.cell 12; simp at r0 r1 r2 r3 r4 r5 r6 r7 r8 r9 r10 r11 r12; have rf := HRB.out.frozen))
  all_goals
    have ho := ((Only.refl [w.heap.size] w6).setCell (p := ⟨w.heap.size, 11, none⟩) (.inl (by simp)) (.string s1)).setCell (p := ⟨w.heap.size, 12, none⟩) (.inl (by simp)) (.string ⟨#[48]⟩)
    replace HMB := hide (show Blk ((w6.setCell ⟨w.heap.size, 11, none⟩ (.string s1)).setCell ⟨w.heap.size, 12, none⟩ (.string ⟨#[48]⟩)) w.heap.size 25 #[.int .i64 k, .int .u32 (s : Nat), .int .u32 (r : Nat), .int .u64 (c : Nat), .string x4, .string x5, .string x6, .string x7, .string x8, .string x9, .string x10, .string s1, .string ⟨#[48]⟩] from (by have h := (HMB.out.set_ 11 (.string s1)).set_ 12 (.string ⟨#[48]⟩); simp only [List.setIfInBounds_toArray, List.set_cons_zero, List.set_cons_succ] at h; exact h))
    replace HRB := hide (HRB.out.only ho (by simp))
    replace HO := hide ((HO.out.mono (S' := [w.heap.size]) (by simp)).trans ho |>.mono (S' := []) (by simp))
    replace HT := hide (HTW.out.only HO.out (by simp))
    clear ho
    generalize ((w6.setCell ⟨w.heap.size, 11, none⟩ (.string s1)).setCell ⟨w.heap.size, 12, none⟩ (.string ⟨#[48]⟩)) = w7 at *
    clear m0 m1 m2 m3 m4 m5 m6 m7 m8 m9 m10 m11 m12 mf
    have mf := HMB.out.frozen
    have m0 := HMB.out.cell 0
    have m1 := HMB.out.cell 1
    have m2 := HMB.out.cell 2
    have m3 := HMB.out.cell 3
    have m4 := HMB.out.cell 4
    have m5 := HMB.out.cell 5
    have m6 := HMB.out.cell 6
    have m7 := HMB.out.cell 7
    have m8 := HMB.out.cell 8
    have m9 := HMB.out.cell 9
    have m10 := HMB.out.cell 10
    have m11 := HMB.out.cell 11
    have m12 := HMB.out.cell 12
    simp at m0 m1 m2 m3 m4 m5 m6 m7 m8 m9 m10 m11 m12
    clear r0 r1 r2 r3 r4 r5 r6 r7 r8 r9 r10 r11 r12 rf
    have r0 := HRB.out.cell 0
    have r1 := HRB.out.cell 1
    have r2 := HRB.out.cell 2
    have r3 := HRB.out.cell 3
    have r4 := HRB.out.cell 4
    have r5 := HRB.out.cell 5
    have r6 := HRB.out.cell 6
    have r7 := HRB.out.cell 7
    have r8 := HRB.out.cell 8
    have r9 := HRB.out.cell 9
    have r10 := HRB.out.cell 10
    have r11 := HRB.out.cell 11
    have r12 := HRB.out.cell 12
    simp at r0 r1 r2 r3 r4 r5 r6 r7 r8 r9 r10 r11 r12
    have rf := HRB.out.frozen
    go_wp2_with (go_at_call 56; refine (HTM.out _).mono ?_; rintro e w9 ⟨ho, rfl⟩; replace HMB := hide (HMB.out.only ho (by simp)); replace HRB := hide (HRB.out.only ho (by simp)); replace HT := hide (HT.out.only ho (by simp)); replace HO := hide (HO.out.trans ho); clear ho; (first | (clear m0 m1 m2 m3 m4 m5 m6 m7 m8 m9 m10 m11 m12) | skip); have mf := HMB.out.frozen; have m0 := HMB.out.cell 0; have m1 := HMB.out.cell 1; have m2 := HMB.out.cell 2; have m3 := HMB.out.cell 3; have m4 := HMB.out.cell 4; have m5 := HMB.out.cell 5; have m6 := HMB.out.cell 6; have m7 := HMB.out.cell 7; have m8 := HMB.out.cell 8; have m9 := HMB.out.cell 9; have m10 := HMB.out.cell 10; have m11 := HMB.out.cell 11; have m12 := HMB.out.cell 12; simp at m0 m1 m2 m3 m4 m5 m6 m7 m8 m9 m10 m11 m12; (first | (clear r0 r1 r2 r3 r4 r5 r6 r7 r8 r9 r10 r11 r12 rf) | skip); have r0 := HRB.out.cell 0; have r1 := HRB.out.cell 1; have r2 := HRB.out.cell 2; have r3 := HRB.out.cell 3; have r4 := HRB.out.cell 4; have r5 := HRB.out.cell 5; have r6 := HRB.out.cell 6; have r7 := HRB.out.cell 7; have r8 := HRB.out.cell 8; have r9 := HRB.out.cell 9; have r10 := HRB.out.cell 10; have r11 := HRB.out.cell 11; have r12 := HRB.out.cell 12; simp at r0 r1 r2 r3 r4 r5 r6 r7 r8 r9 r10 r11 r12; have rf := HRB.out.frozen)
    refine bodyPost_ret (results_cell_two rfl _ _ (w.heap.size + 1) 25 _ (0, 0) _ rfl (set13 HRB.out (.int .i64 0) (.int .u32 0) (.int .u32 0) (.int .u64 0) (.string ⟨#[]⟩) (.string ⟨#[]⟩) (.string ⟨#[]⟩) (.string ⟨#[]⟩) (.string ⟨#[]⟩) (.string ⟨#[]⟩) (.string ⟨#[]⟩) (.string ⟨#[]⟩) (.string ⟨#[]⟩)) Tryz.underlying25 rfl (by kernel_rfl)) rfl ?_
    exact signpost HV.out (only13 HO.out (.inr (by omega)) (.int .i64 0) (.int .u32 0) (.int .u32 0) (.int .u64 0) (.string ⟨#[]⟩) (.string ⟨#[]⟩) (.string ⟨#[]⟩) (.string ⟨#[]⟩) (.string ⟨#[]⟩) (.string ⟨#[]⟩) (.string ⟨#[]⟩) (.string ⟨#[]⟩) (.string ⟨#[]⟩))
end
section
open Go.RowKit Go.Deep

theorem fine_of {m : Mg} (hs : m.s < 4294967296) (hr : m.r < 4294967296) (hc : m.c < 18446744073709551616) (h4 : m.x4.size ≤ 65535) (h5 : m.x5.size ≤ 65535) (h6 : m.x6.size ≤ 65535) (h7 : m.x7.size ≤ 65535) (h8 : m.x8.size ≤ 65535) (h9 : m.x9.size ≤ 65535) (h10 : m.x10.size ≤ 65535) (h11 : m.x11.size ≤ 65535) (h12 : m.x12.size ≤ 65535) : m.Fine := by
  have h : 65535 ≤ maxLen := by unfold maxLen; omega
  exact ⟨hs, hr, hc, Nat.le_trans h4 h, Nat.le_trans h5 h, Nat.le_trans h6 h, Nat.le_trans h7 h, Nat.le_trans h8 h, Nat.le_trans h9 h, Nat.le_trans h10 h, Nat.le_trans h11 h, Nat.le_trans h12 h⟩
end
section
open Go.RowKit Go.Deep

def msgA : Mg := ⟨1, 0, 0, 0, (⟨#[112, 40, 97, 49, 41]⟩ : ByteArray), (⟨#[48]⟩ : ByteArray), (⟨#[48]⟩ : ByteArray), noT, noT, noT, noT, (⟨#[48]⟩ : ByteArray), (⟨#[48]⟩ : ByteArray)⟩
def msgB : Mg := ⟨1, 0, 0, 0, (⟨#[112, 40, 97, 49, 41]⟩ : ByteArray), (⟨#[48]⟩ : ByteArray), (⟨#[48]⟩ : ByteArray), noT, noT, noT, noT, (⟨#[109, 40, 104, 40, 120, 54, 100, 54, 49, 54, 51, 51, 49, 44, 112, 40, 97, 50, 41, 41, 44, 108, 40, 110, 49, 44, 110, 48, 44, 110, 48, 44, 112, 40, 97, 49, 41, 44, 48, 44, 48, 41, 41]⟩ : ByteArray), (⟨#[48]⟩ : ByteArray)⟩
theorem aw_num (n : Nat) (s : ByteArray) (h : parseV s = some (3, n, [], [])) : numT n = s := (read_make h).1
theorem aw_door2 : doorT (⟨#[112, 40, 97, 50, 41]⟩ : ByteArray) = (⟨#[104, 40, 120, 54, 100, 54, 49, 54, 51, 51, 49, 44, 112, 40, 97, 50, 41, 41]⟩ : ByteArray) := (read_make (show parseV (⟨#[104, 40, 120, 54, 100, 54, 49, 54, 51, 51, 49, 44, 112, 40, 97, 50, 41, 41]⟩ : ByteArray) = some (7, 0, [], [(⟨#[120, 54, 100, 54, 49, 54, 51, 51, 49]⟩ : ByteArray), (⟨#[112, 40, 97, 50, 41]⟩ : ByteArray)]) by kernel_rfl)).1
theorem aw_door3 : doorT (⟨#[112, 40, 97, 51, 41]⟩ : ByteArray) = (⟨#[104, 40, 120, 54, 100, 54, 49, 54, 51, 51, 49, 44, 112, 40, 97, 51, 41, 41]⟩ : ByteArray) := (read_make (show parseV (⟨#[104, 40, 120, 54, 100, 54, 49, 54, 51, 51, 49, 44, 112, 40, 97, 51, 41, 41]⟩ : ByteArray) = some (7, 0, [], [(⟨#[120, 54, 100, 54, 49, 54, 51, 51, 49]⟩ : ByteArray), (⟨#[112, 40, 97, 51, 41]⟩ : ByteArray)]) by kernel_rfl)).1
theorem aw_texts (x11 x12 : ByteArray) (hr : rightM ⟨1, 0, 0, 0, (⟨#[112, 40, 97, 49, 41]⟩ : ByteArray), (⟨#[48]⟩ : ByteArray), (⟨#[48]⟩ : ByteArray), noT, noT, noT, noT, x11, x12⟩ = true) : bodyM ⟨1, 0, 0, 0, (⟨#[112, 40, 97, 49, 41]⟩ : ByteArray), (⟨#[48]⟩ : ByteArray), (⟨#[48]⟩ : ByteArray), noT, noT, noT, noT, x11, x12⟩ = (⟨#[108, 40, 110, 49, 44, 110, 48, 44, 110, 48, 44, 112, 40, 97, 49, 41, 44, 48, 44, 48, 41]⟩ : ByteArray) := by
  unfold bodyM
  rw [if_pos ⟨hr, by show (1 : Int) ≤ 2; omega⟩]
  show makeV 11 0 [] [numT 1, numT 0, numT 0, (⟨#[112, 40, 97, 49, 41]⟩ : ByteArray), (⟨#[48]⟩ : ByteArray), (⟨#[48]⟩ : ByteArray)] = _
  rw [aw_num 1 (⟨#[110, 49]⟩ : ByteArray) (by kernel_rfl), aw_num 0 (⟨#[110, 48]⟩ : ByteArray) (by kernel_rfl)]
  exact (read_make (show parseV (⟨#[108, 40, 110, 49, 44, 110, 48, 44, 110, 48, 44, 112, 40, 97, 49, 41, 44, 48, 44, 48, 41]⟩ : ByteArray) = some (11, 0, [], [(⟨#[110, 49]⟩ : ByteArray), (⟨#[110, 48]⟩ : ByteArray), (⟨#[110, 48]⟩ : ByteArray), (⟨#[112, 40, 97, 49, 41]⟩ : ByteArray), (⟨#[48]⟩ : ByteArray), (⟨#[48]⟩ : ByteArray)]) by kernel_rfl)).1
theorem aw_rightA : rightM msgA = true := by kernel_rfl
theorem aw_rightB : rightM msgB = true := by kernel_rfl
theorem aw_sum : sumT (⟨#[104, 40, 120, 54, 100, 54, 49, 54, 51, 51, 49, 44, 112, 40, 97, 50, 41, 41]⟩ : ByteArray) (⟨#[108, 40, 110, 49, 44, 110, 48, 44, 110, 48, 44, 112, 40, 97, 49, 41, 44, 48, 44, 48, 41]⟩ : ByteArray) = (⟨#[109, 40, 104, 40, 120, 54, 100, 54, 49, 54, 51, 51, 49, 44, 112, 40, 97, 50, 41, 41, 44, 108, 40, 110, 49, 44, 110, 48, 44, 110, 48, 44, 112, 40, 97, 49, 41, 44, 48, 44, 48, 41, 41]⟩ : ByteArray) := (read_make (show parseV (⟨#[109, 40, 104, 40, 120, 54, 100, 54, 49, 54, 51, 51, 49, 44, 112, 40, 97, 50, 41, 41, 44, 108, 40, 110, 49, 44, 110, 48, 44, 110, 48, 44, 112, 40, 97, 49, 41, 44, 48, 44, 48, 41, 41]⟩ : ByteArray) = some (9, 0, [], [(⟨#[104, 40, 120, 54, 100, 54, 49, 54, 51, 51, 49, 44, 112, 40, 97, 50, 41, 41]⟩ : ByteArray), (⟨#[108, 40, 110, 49, 44, 110, 48, 44, 110, 48, 44, 112, 40, 97, 49, 41, 44, 48, 44, 48, 41]⟩ : ByteArray)]) by kernel_rfl)).1
theorem aw_sign : sign2 msgA (⟨#[112, 40, 97, 50, 41]⟩ : ByteArray) ByteArray.empty = msgB := by
  unfold sign2
  rw [if_pos rfl]
  unfold sign1
  rw [aw_door2, show bodyM msgA = (⟨#[108, 40, 110, 49, 44, 110, 48, 44, 110, 48, 44, 112, 40, 97, 49, 41, 44, 48, 44, 48, 41]⟩ : ByteArray) from aw_texts _ _ aw_rightA, aw_sum]
  rfl
theorem aw_starts (m : Mg) (h : rightM m = true) (hk : m.k ≤ 2) : startsM m = true := by unfold startsM; rw [h, decide_eq_true hk]; rfl
theorem aw_first2 : firstM msgB (⟨#[112, 40, 97, 50, 41]⟩ : ByteArray) = true := by
  unfold firstM
  rw [aw_starts _ aw_rightB (by decide), aw_door2, show bodyM msgB = (⟨#[108, 40, 110, 49, 44, 110, 48, 44, 110, 48, 44, 112, 40, 97, 49, 41, 44, 48, 44, 48, 41]⟩ : ByteArray) from aw_texts _ _ aw_rightB]
  kernel_rfl
theorem aw_first3 : firstM msgB (⟨#[112, 40, 97, 51, 41]⟩ : ByteArray) = false := by
  unfold firstM
  rw [aw_starts _ aw_rightB (by decide), aw_door3, show bodyM msgB = (⟨#[108, 40, 110, 49, 44, 110, 48, 44, 110, 48, 44, 112, 40, 97, 49, 41, 44, 48, 44, 48, 41]⟩ : ByteArray) from aw_texts _ _ aw_rightB]
  kernel_rfl
theorem aw_ok : okSign msgA (⟨#[112, 40, 97, 50, 41]⟩ : ByteArray) ByteArray.empty = true := by
  unfold okSign
  rw [aw_starts _ aw_rightA (by decide)]
  kernel_rfl
theorem small_fine (m : Mg) (hs : m.s = 0) (hr : m.r = 0) (hc : m.c = 0) (h : m.x4.size ≤ 65535 ∧ m.x5.size ≤ 65535 ∧ m.x6.size ≤ 65535 ∧ m.x7.size ≤ 65535 ∧ m.x8.size ≤ 65535 ∧ m.x9.size ≤ 65535 ∧ m.x10.size ≤ 65535 ∧ m.x11.size ≤ 65535 ∧ m.x12.size ≤ 65535) : m.Fine :=
  fine_of (by omega) (by omega) (by omega) h.1 h.2.1 h.2.2.1 h.2.2.2.1 h.2.2.2.2.1 h.2.2.2.2.2.1 h.2.2.2.2.2.2.1 h.2.2.2.2.2.2.2.1 h.2.2.2.2.2.2.2.2
set_option maxRecDepth 100000 in
set_option maxHeartbeats 12800000 in
theorem awake11 (w : World) (htab : Tab w) : Calls Tryz.prog 10 #[] w fun e w' => e = .returned (.bool true) ∧ Only [] w w' := by
  have HSG := hide (fun W ht => Sign_no W msgA (⟨#[112, 40, 97, 50, 41]⟩ : ByteArray) ByteArray.empty (small_fine _ rfl rfl rfl (by decide)) (by show (-9223372036854775808 : Int) ≤ 1; omega) (by unfold maxLen; show 5 ≤ _; omega) (by unfold maxLen; show 0 ≤ _; omega) ht aw_ok rfl (by rw [aw_sign]; exact aw_rightB))
  have hsv : signMV msgA (⟨#[112, 40, 97, 50, 41]⟩ : ByteArray) ByteArray.empty = (0, msgB) := by unfold signMV; rw [aw_ok, if_pos rfl, aw_sign, aw_rightB, if_pos rfl]
  unfold SignPost at HSG
  rw [hsv] at HSG
  have HF2 : Hid (∀ W, Tab W → Calls Tryz.prog 14 #[.agg #[.int .i64 1, .int .u32 0, .int .u32 0, .int .u64 0, .string ⟨#[112, 40, 97, 49, 41]⟩, .string ⟨#[48]⟩, .string ⟨#[48]⟩, .string ⟨#[]⟩, .string ⟨#[]⟩, .string ⟨#[]⟩, .string ⟨#[]⟩, .string ⟨#[109, 40, 104, 40, 120, 54, 100, 54, 49, 54, 51, 51, 49, 44, 112, 40, 97, 50, 41, 41, 44, 108, 40, 110, 49, 44, 110, 48, 44, 110, 48, 44, 112, 40, 97, 49, 41, 44, 48, 44, 48, 41, 41]⟩, .string ⟨#[48]⟩], .string (⟨#[112, 40, 97, 50, 41]⟩ : ByteArray)] W (RetB true W)) := hide (fun W ht => by
    have h := First_any W msgB (⟨#[112, 40, 97, 50, 41]⟩ : ByteArray) (small_fine _ rfl rfl rfl (by decide)) (by show (-9223372036854775808 : Int) ≤ 1; omega) (by unfold maxLen; show 5 ≤ _; omega) ht
    rw [aw_first2] at h
    exact h)
  have HF3 : Hid (∀ W, Tab W → Calls Tryz.prog 14 #[.agg #[.int .i64 1, .int .u32 0, .int .u32 0, .int .u64 0, .string ⟨#[112, 40, 97, 49, 41]⟩, .string ⟨#[48]⟩, .string ⟨#[48]⟩, .string ⟨#[]⟩, .string ⟨#[]⟩, .string ⟨#[]⟩, .string ⟨#[]⟩, .string ⟨#[109, 40, 104, 40, 120, 54, 100, 54, 49, 54, 51, 51, 49, 44, 112, 40, 97, 50, 41, 41, 44, 108, 40, 110, 49, 44, 110, 48, 44, 110, 48, 44, 112, 40, 97, 49, 41, 44, 48, 44, 48, 41, 41]⟩, .string ⟨#[48]⟩], .string (⟨#[112, 40, 97, 51, 41]⟩ : ByteArray)] W (RetB false W)) := hide (fun W ht => by
    have h := First_any W msgB (⟨#[112, 40, 97, 51, 41]⟩ : ByteArray) (small_fine _ rfl rfl rfl (by decide)) (by show (-9223372036854775808 : Int) ≤ 1; omega) (by unfold maxLen; show 5 ≤ _; omega) ht
    rw [aw_first3] at h
    exact h)
  unfold RetB at HF2 HF3
  unfold msgA msgB Mg.cells noT at HSG
  simp only at HSG
  have HT := hide htab
  clear hsv htab
  go_enter Tryz.func10, Tryz.ntmps10
  go_upto_region 2 with (go_at_call 12; refine (HSG.out _ HT.out).mono ?_; rintro e w1 ⟨rfl, ho⟩; have HMB := hide (Blk.new w1 25 #[.int .i64 1, .int .u32 0, .int .u32 0, .int .u64 0, .string ⟨#[112, 40, 97, 49, 41]⟩, .string ⟨#[48]⟩, .string ⟨#[48]⟩, .string ⟨#[]⟩, .string ⟨#[]⟩, .string ⟨#[]⟩, .string ⟨#[]⟩, .string ⟨#[109, 40, 104, 40, 120, 54, 100, 54, 49, 54, 51, 51, 49, 44, 112, 40, 97, 50, 41, 41, 44, 108, 40, 110, 49, 44, 110, 48, 44, 110, 48, 44, 112, 40, 97, 49, 41, 44, 48, 44, 48, 41, 41]⟩, .string ⟨#[48]⟩]); have HO := hide (ho.alloc (.cells #[.int .i64 1, .int .u32 0, .int .u32 0, .int .u64 0, .string ⟨#[112, 40, 97, 49, 41]⟩, .string ⟨#[48]⟩, .string ⟨#[48]⟩, .string ⟨#[]⟩, .string ⟨#[]⟩, .string ⟨#[]⟩, .string ⟨#[]⟩, .string ⟨#[109, 40, 104, 40, 120, 54, 100, 54, 49, 54, 51, 51, 49, 44, 112, 40, 97, 50, 41, 41, 44, 108, 40, 110, 49, 44, 110, 48, 44, 110, 48, 44, 112, 40, 97, 49, 41, 44, 48, 44, 48, 41, 41]⟩, .string ⟨#[48]⟩] 25)); replace HT := hide (HT.out.only HO.out (by simp)); clear ho)
  generalize (w1.alloc (.cells #[.int .i64 1, .int .u32 0, .int .u32 0, .int .u64 0, .string ⟨#[112, 40, 97, 49, 41]⟩, .string ⟨#[48]⟩, .string ⟨#[48]⟩, .string ⟨#[]⟩, .string ⟨#[]⟩, .string ⟨#[]⟩, .string ⟨#[]⟩, .string ⟨#[109, 40, 104, 40, 120, 54, 100, 54, 49, 54, 51, 51, 49, 44, 112, 40, 97, 50, 41, 41, 44, 108, 40, 110, 49, 44, 110, 48, 44, 110, 48, 44, 112, 40, 97, 49, 41, 44, 48, 44, 48, 41, 41]⟩, .string ⟨#[48]⟩] 25)) = w2 at *
  have m0 := HMB.out.cell 0; have m1 := HMB.out.cell 1; have m2 := HMB.out.cell 2; have m3 := HMB.out.cell 3; have m4 := HMB.out.cell 4; have m5 := HMB.out.cell 5; have m6 := HMB.out.cell 6; have m7 := HMB.out.cell 7; have m8 := HMB.out.cell 8; have m9 := HMB.out.cell 9; have m10 := HMB.out.cell 10; have m11 := HMB.out.cell 11; have m12 := HMB.out.cell 12; simp at m0 m1 m2 m3 m4 m5 m6 m7 m8 m9 m10 m11 m12
  go_wp2_with (first
    | (go_at_call 14; (with_reducible refine (HF2.out _ HT.out).mono ?_); rintro e w3 ⟨rfl, ho⟩; replace HMB := hide (HMB.out.only ho (by simp)); replace HT := hide (HT.out.only ho (by simp)); replace HO := hide (HO.out.trans ho); clear ho m0 m1 m2 m3 m4 m5 m6 m7 m8 m9 m10 m11 m12; have m0 := HMB.out.cell 0; have m1 := HMB.out.cell 1; have m2 := HMB.out.cell 2; have m3 := HMB.out.cell 3; have m4 := HMB.out.cell 4; have m5 := HMB.out.cell 5; have m6 := HMB.out.cell 6; have m7 := HMB.out.cell 7; have m8 := HMB.out.cell 8; have m9 := HMB.out.cell 9; have m10 := HMB.out.cell 10; have m11 := HMB.out.cell 11; have m12 := HMB.out.cell 12; simp at m0 m1 m2 m3 m4 m5 m6 m7 m8 m9 m10 m11 m12)
    | (go_at_call 14; (with_reducible refine (HF3.out _ HT.out).mono ?_); rintro e w4 ⟨rfl, ho⟩; replace HO := hide (HO.out.trans ho); clear ho))
  go_ret
  exact ⟨rfl, HO.out⟩
end
section
open Go.RowKit Go.Deep

def heavyV (m : Mg) (q : Int) : Bool := decide (q < wrap64 (wrap64 (wrap64 (wrap64 (wrap64 (wrap64 (wrap64 (wrap64 ((m.x4.size : Int) + (m.x5.size : Int)) + (m.x6.size : Int)) + (m.x7.size : Int)) + (m.x8.size : Int)) + (m.x9.size : Int)) + (m.x10.size : Int)) + (m.x11.size : Int)) + (m.x12.size : Int)))
set_option maxRecDepth 100000 in
set_option maxHeartbeats 12800000 in
theorem Heavy_any (m : Mg) (q : Int) (w : World) : Calls Tryz.prog 28 #[.agg m.cells, .int .i64 q] w (RetB (heavyV m q) w) := by
  obtain ⟨k, s, r, c, x4, x5, x6, x7, x8, x9, x10, x11, x12⟩ := m
  unfold Mg.cells heavyV RetB
  simp only
  · have HMB := hide (Blk.new w 25 #[.int .i64 k, .int .u32 (s : Nat), .int .u32 (r : Nat), .int .u64 (c : Nat), .string x4, .string x5, .string x6, .string x7, .string x8, .string x9, .string x10, .string x11, .string x12])
    have HO := hide ((Only.refl [] w).alloc (.cells #[.int .i64 k, .int .u32 (s : Nat), .int .u32 (r : Nat), .int .u64 (c : Nat), .string x4, .string x5, .string x6, .string x7, .string x8, .string x9, .string x10, .string x11, .string x12] 25))
    have m0 := HMB.out.cell 0; have m1 := HMB.out.cell 1; have m2 := HMB.out.cell 2; have m3 := HMB.out.cell 3; have m4 := HMB.out.cell 4; have m5 := HMB.out.cell 5; have m6 := HMB.out.cell 6; have m7 := HMB.out.cell 7; have m8 := HMB.out.cell 8; have m9 := HMB.out.cell 9; have m10 := HMB.out.cell 10; have m11 := HMB.out.cell 11; have m12 := HMB.out.cell 12; simp at m0 m1 m2 m3 m4 m5 m6 m7 m8 m9 m10 m11 m12
    go_enter Tryz.func28, Tryz.ntmps28
    go_wp2_with fail
    go_ret
    exact ⟨rfl, HO.out⟩
theorem right_sizes {m : Mg} (h : rightM m = true) : m.x4.size ≤ 65535 ∧ m.x5.size ≤ 65535 ∧ m.x6.size ≤ 65535 ∧ m.x7.size ≤ 65535 ∧ m.x8.size ≤ 65535 ∧ m.x9.size ≤ 65535 ∧ m.x10.size ≤ 65535 ∧ m.x11.size ≤ 65535 ∧ m.x12.size ≤ 65535 := by
  unfold rightM at h
  rw [Bool.and_eq_true, Bool.and_eq_true, decide_eq_true_eq, eqM_iff] at h
  obtain ⟨hk, hf, he⟩ := h
  rw [List.all_eq_true] at hf
  have hz : ∀ p, p ∈ textsM m → p.size ≤ 65535 := by
    intro p hp
    have h1 := hf p hp
    unfold fitW at h1
    rw [Bool.and_eq_true] at h1
    exact of_decide_eq_true h1.1
  have n0 : noT.size ≤ 65535 := by show 0 ≤ 65535; omega
  obtain ⟨k, s, r, c, x4, x5, x6, x7, x8, x9, x10, x11, x12⟩ := m
  unfold textsM at hz
  unfold onlyM at he
  simp only at he hz hk ⊢
  have hk4 : k = 1 ∨ k = 2 ∨ k = 3 ∨ k = 4 := by omega
  rcases hk4 with rfl | rfl | rfl | rfl
  all_goals
    simp at he hz
  · obtain ⟨_, _, rfl, rfl, rfl, rfl⟩ := he
    obtain ⟨h1, h2, h3, h4, h5⟩ := hz
    exact ⟨h1, h2, h3, n0, n0, n0, n0, h4, h5⟩
  · obtain ⟨_, rfl, rfl, rfl, rfl, rfl⟩ := he
    obtain ⟨h1, h2, h3, h4⟩ := hz
    exact ⟨h1, n0, n0, h2, n0, n0, n0, h3, h4⟩
  · obtain ⟨_, _, rfl, rfl, rfl, rfl, rfl, rfl, rfl⟩ := he
    obtain ⟨h1, h2⟩ := hz
    exact ⟨n0, n0, n0, n0, h1, h2, n0, n0, n0⟩
  · obtain ⟨_, rfl, rfl, rfl, rfl, rfl, rfl, rfl, rfl⟩ := he
    exact ⟨n0, n0, n0, n0, n0, n0, hz, n0, n0⟩
theorem wrap_small (n : Nat) (h : n ≤ 600000) : wrap64 (n : Int) = (n : Int) := by
  unfold wrap64
  omega
theorem heavy_right {m : Mg} (h : rightM m = true) (q : Int) : heavyV m q = decide (q < ((m.x4.size + m.x5.size + m.x6.size + m.x7.size + m.x8.size + m.x9.size + m.x10.size + m.x11.size + m.x12.size : Nat) : Int)) := by
  obtain ⟨h4, h5, h6, h7, h8, h9, h10, h11, h12⟩ := right_sizes h
  unfold heavyV
  generalize m.x4.size = a4 at *
  generalize m.x5.size = a5 at *
  generalize m.x6.size = a6 at *
  generalize m.x7.size = a7 at *
  generalize m.x8.size = a8 at *
  generalize m.x9.size = a9 at *
  generalize m.x10.size = a10 at *
  generalize m.x11.size = a11 at *
  generalize m.x12.size = a12 at *
  rw [← Int.natCast_add, wrap_small _ (by omega), ← Int.natCast_add, wrap_small _ (by omega), ← Int.natCast_add, wrap_small _ (by omega), ← Int.natCast_add, wrap_small _ (by omega), ← Int.natCast_add, wrap_small _ (by omega), ← Int.natCast_add, wrap_small _ (by omega), ← Int.natCast_add, wrap_small _ (by omega), ← Int.natCast_add, wrap_small _ (by omega)]
end
end Go.Proofs.YtfipdjlalfpbnaaGreatDoor

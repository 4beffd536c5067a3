/-
  Walks and plain words (texts Mc4b, Ms7, Py5). No condition beyond those that each theorem states.
-/
import Derived.Deep.RegionHeld3
import Derived.Test.YtcokjoidpnfjhaaGreatDoorA25
import Derived.Test.YtcokjoidpnfjhaaGreatDoorA29
import Derived.Test.YtcokjoidpnfjhaaGreatDoorA30
import Derived.Test.YtcokjoidpnfjhaaGreatDoorA31
namespace Go.Proofs.YtcokjoidpnfjhaaGreatDoor
section
open Go.RowKit Go.Deep

set_option maxRecDepth 100000 in
set_option maxHeartbeats 12800000 in
theorem Sign_nol (w : World) (m : Mg) (p c2 : ByteArray) (hF : m.Fine) (hk0 : -9223372036854775808 ≤ m.k) (hp : p.size ≤ maxLen) (hc : c2.size ≤ maxLen) (htab : Tab w) (hb : okSign m p c2 = true) (hce : c2 = ByteArray.empty) (hR : rightM (sign2 m p c2) = false) :
    Calls Tryz.prog 132 #[.agg m.cells, .string p, .string c2] w (SignPost (signMV m p c2) w) := by
  have HV := hide (show signMV m p c2 = (5, zeroG) by unfold signMV; rw [hb, if_pos rfl, if_neg (by rw [hR]; decide)])
  have HST := hide (fun W => starts_any W m hF hk0)
  unfold RetB at HST
  have HKP := hide (fun W => Kind_any W p hp)
  have HKC := hide (fun W => Kind_any W c2 hc)
  unfold KindPost at HKP HKC
  have HTM := hide (fun W => Terms_any W (sign2 m p c2) (sign2_fine hF p c2))
  unfold TermsPost at HTM
  simp only [hR, Bool.false_eq_true, if_false] at HTM
  have HBD := hide (fun W ht => Body_any W m hF ht)
  have HDR := hide (fun W ht => door_any W p hp ht)
  have HSM := hide (fun W ht => sum_any W (doorT p) (bodyM m) (door_size p) (body_size m) ht)
  unfold MakePost at HBD HDR HSM
  have h1 : startsM m = true ∧ kindT p = 5 := by unfold okSign at hb; rw [Bool.and_eq_true, Bool.and_eq_true] at hb; exact ⟨hb.1, of_decide_eq_true hb.2.1⟩
  rw [h1.1] at HST
  have e2 : (kindT p != 5) = false := by rw [bne_eq_false_iff_eq]; exact h1.2
  have e2b : kindT p = 5 := h1.2
  rw [e2b] at HKP e2
  have e3 : c2.toList.isEmpty = true := by rw [hce]; kernel_rfl
  have HS := hide (show sign2 m p c2 = sign1 m p by unfold sign2; rw [if_pos hce])
  rw [HS.out] at HTM
  unfold sign1 at HTM
  clear hb hR hce h1 e2b HS
  change Hid (∀ W ht, Calls _ _ _ _ (fun e w' => e = .returned (.string (sumT (doorT p) (bodyM m))) ∧ Only [] W w')) at HSM
  generalize sumT (doorT p) (bodyM m) = s1 at *
  generalize bodyM m = bd at *
  generalize doorT p = dp at *
  obtain ⟨k, s, r, c, x4, x5, x6, x7, x8, x9, x10, x11, x12⟩ := m
  unfold Mg.cells at HST HTM HBD ⊢
  simp only at HST HTM HBD HV ⊢
  have HMB := hide ((Blk.new w 29 #[.int .i64 k, .int .u32 (s : Nat), .int .u32 (r : Nat), .int .u64 (c : Nat), .string x4, .string x5, .string x6, .string x7, .string x8, .string x9, .string x10, .string x11, .string x12]).alloc (.cells #[.int .i64 0, .int .u32 0, .int .u32 0, .int .u64 0, .string ⟨#[]⟩, .string ⟨#[]⟩, .string ⟨#[]⟩, .string ⟨#[]⟩, .string ⟨#[]⟩, .string ⟨#[]⟩, .string ⟨#[]⟩, .string ⟨#[]⟩, .string ⟨#[]⟩] 29))
  have HRB := hide (Blk.new (w.alloc (.cells #[.int .i64 k, .int .u32 (s : Nat), .int .u32 (r : Nat), .int .u64 (c : Nat), .string x4, .string x5, .string x6, .string x7, .string x8, .string x9, .string x10, .string x11, .string x12] 29)) 29 #[.int .i64 0, .int .u32 0, .int .u32 0, .int .u64 0, .string ⟨#[]⟩, .string ⟨#[]⟩, .string ⟨#[]⟩, .string ⟨#[]⟩, .string ⟨#[]⟩, .string ⟨#[]⟩, .string ⟨#[]⟩, .string ⟨#[]⟩, .string ⟨#[]⟩])
  rw [World.size_alloc] at HRB
  have HO := hide (((Only.refl [] w).alloc (.cells #[.int .i64 k, .int .u32 (s : Nat), .int .u32 (r : Nat), .int .u64 (c : Nat), .string x4, .string x5, .string x6, .string x7, .string x8, .string x9, .string x10, .string x11, .string x12] 29)).alloc (.cells #[.int .i64 0, .int .u32 0, .int .u32 0, .int .u64 0, .string ⟨#[]⟩, .string ⟨#[]⟩, .string ⟨#[]⟩, .string ⟨#[]⟩, .string ⟨#[]⟩, .string ⟨#[]⟩, .string ⟨#[]⟩, .string ⟨#[]⟩, .string ⟨#[]⟩] 29))
  have HT := hide (htab.only HO.out (by simp))
  have HTW := hide htab
  clear htab hF hk0
  go_enter Tryz.func132, Tryz.ntmps132
  go_upto_region 1 with fail
  generalize ((w.alloc (.cells #[.int .i64 k, .int .u32 (s : Nat), .int .u32 (r : Nat), .int .u64 (c : Nat), .string x4, .string x5, .string x6, .string x7, .string x8, .string x9, .string x10, .string x11, .string x12] 29)).alloc (.cells #[.int .i64 0, .int .u32 0, .int .u32 0, .int .u64 0, .string ⟨#[]⟩, .string ⟨#[]⟩, .string ⟨#[]⟩, .string ⟨#[]⟩, .string ⟨#[]⟩, .string ⟨#[]⟩, .string ⟨#[]⟩, .string ⟨#[]⟩, .string ⟨#[]⟩] 29)) = v0 at *
  have m0 := HMB.out.cell 0; have m1 := HMB.out.cell 1; have m2 := HMB.out.cell 2; have m3 := HMB.out.cell 3; have m4 := HMB.out.cell 4; have m5 := HMB.out.cell 5; have m6 := HMB.out.cell 6; have m7 := HMB.out.cell 7; have m8 := HMB.out.cell 8; have m9 := HMB.out.cell 9; have m10 := HMB.out.cell 10; have m11 := HMB.out.cell 11; have m12 := HMB.out.cell 12; simp at m0 m1 m2 m3 m4 m5 m6 m7 m8 m9 m10 m11 m12
  have r0 := HRB.out.cell 0; have r1 := HRB.out.cell 1; have r2 := HRB.out.cell 2; have r3 := HRB.out.cell 3; have r4 := HRB.out.cell 4; have r5 := HRB.out.cell 5; have r6 := HRB.out.cell 6; have r7 := HRB.out.cell 7; have r8 := HRB.out.cell 8; have r9 := HRB.out.cell 9; have r10 := HRB.out.cell 10; have r11 := HRB.out.cell 11; have r12 := HRB.out.cell 12; simp at r0 r1 r2 r3 r4 r5 r6 r7 r8 r9 r10 r11 r12; have rf := HRB.out.frozen
  go_wp2_with (first | (go_at_call 88; (with_reducible refine (HST.out _).mono ?_); rintro e w1 ⟨rfl, ho⟩; replace HMB := hide (HMB.out.only ho (by simp)); replace HRB := hide (HRB.out.only ho (by simp)); replace HT := hide (HT.out.only ho (by simp)); replace HO := hide (HO.out.trans ho); clear ho; (first | (clear m0 m1 m2 m3 m4 m5 m6 m7 m8 m9 m10 m11 m12) | skip); have mf := HMB.out.frozen; have m0 := HMB.out.cell 0; have m1 := HMB.out.cell 1; have m2 := HMB.out.cell 2; have m3 := HMB.out.cell 3; have m4 := HMB.out.cell 4; have m5 := HMB.out.cell 5; have m6 := HMB.out.cell 6; have m7 := HMB.out.cell 7; have m8 := HMB.out.cell 8; have m9 := HMB.out.cell 9; have m10 := HMB.out.cell 10; have m11 := HMB.out.cell 11; have m12 := HMB.out.cell 12; simp at m0 m1 m2 m3 m4 m5 m6 m7 m8 m9 m10 m11 m12; (first | (clear r0 r1 r2 r3 r4 r5 r6 r7 r8 r9 r10 r11 r12 rf) | skip); have r0 := HRB.out.cell 0; have r1 := HRB.out.cell 1; have r2 := HRB.out.cell 2; have r3 := HRB.out.cell 3; have r4 := HRB.out.cell 4; have r5 := HRB.out.cell 5; have r6 := HRB.out.cell 6; have r7 := HRB.out.cell 7; have r8 := HRB.out.cell 8; have r9 := HRB.out.cell 9; have r10 := HRB.out.cell 10; have r11 := HRB.out.cell 11; have r12 := HRB.out.cell 12; simp at r0 r1 r2 r3 r4 r5 r6 r7 r8 r9 r10 r11 r12; have rf := HRB.out.frozen) | (go_at_call 53; (with_reducible refine (HKP.out _).mono ?_); rintro e w2 ⟨rfl, ho⟩; replace HMB := hide (HMB.out.only ho (by simp)); replace HRB := hide (HRB.out.only ho (by simp)); replace HT := hide (HT.out.only ho (by simp)); replace HO := hide (HO.out.trans ho); clear ho; (first | (clear m0 m1 m2 m3 m4 m5 m6 m7 m8 m9 m10 m11 m12) | skip); have mf := HMB.out.frozen; have m0 := HMB.out.cell 0; have m1 := HMB.out.cell 1; have m2 := HMB.out.cell 2; have m3 := HMB.out.cell 3; have m4 := HMB.out.cell 4; have m5 := HMB.out.cell 5; have m6 := HMB.out.cell 6; have m7 := HMB.out.cell 7; have m8 := HMB.out.cell 8; have m9 := HMB.out.cell 9; have m10 := HMB.out.cell 10; have m11 := HMB.out.cell 11; have m12 := HMB.out.cell 12; simp at m0 m1 m2 m3 m4 m5 m6 m7 m8 m9 m10 m11 m12; (first | (clear r0 r1 r2 r3 r4 r5 r6 r7 r8 r9 r10 r11 r12 rf) | skip); have r0 := HRB.out.cell 0; have r1 := HRB.out.cell 1; have r2 := HRB.out.cell 2; have r3 := HRB.out.cell 3; have r4 := HRB.out.cell 4; have r5 := HRB.out.cell 5; have r6 := HRB.out.cell 6; have r7 := HRB.out.cell 7; have r8 := HRB.out.cell 8; have r9 := HRB.out.cell 9; have r10 := HRB.out.cell 10; have r11 := HRB.out.cell 11; have r12 := HRB.out.cell 12; simp at r0 r1 r2 r3 r4 r5 r6 r7 r8 r9 r10 r11 r12; have rf := HRB.out.frozen) | (go_at_call 53; (with_reducible refine (HKC.out _).mono ?_); rintro e w3 ⟨rfl, ho⟩; replace HMB := hide (HMB.out.only ho (by simp)); replace HRB := hide (HRB.out.only ho (by simp)); replace HT := hide (HT.out.only ho (by simp)); replace HO := hide (HO.out.trans ho); clear ho; (first | (clear m0 m1 m2 m3 m4 m5 m6 m7 m8 m9 m10 m11 m12) | skip); have mf := HMB.out.frozen; have m0 := HMB.out.cell 0; have m1 := HMB.out.cell 1; have m2 := HMB.out.cell 2; have m3 := HMB.out.cell 3; have m4 := HMB.out.cell 4; have m5 := HMB.out.cell 5; have m6 := HMB.out.cell 6; have m7 := HMB.out.cell 7; have m8 := HMB.out.cell 8; have m9 := HMB.out.cell 9; have m10 := HMB.out.cell 10; have m11 := HMB.out.cell 11; have m12 := HMB.out.cell 12; simp at m0 m1 m2 m3 m4 m5 m6 m7 m8 m9 m10 m11 m12; (first | (clear r0 r1 r2 r3 r4 r5 r6 r7 r8 r9 r10 r11 r12 rf) | skip); have r0 := HRB.out.cell 0; have r1 := HRB.out.cell 1; have r2 := HRB.out.cell 2; have r3 := HRB.out.cell 3; have r4 := HRB.out.cell 4; have r5 := HRB.out.cell 5; have r6 := HRB.out.cell 6; have r7 := HRB.out.cell 7; have r8 := HRB.out.cell 8; have r9 := HRB.out.cell 9; have r10 := HRB.out.cell 10; have r11 := HRB.out.cell 11; have r12 := HRB.out.cell 12; simp at r0 r1 r2 r3 r4 r5 r6 r7 r8 r9 r10 r11 r12; have rf := HRB.out.frozen))
  go_region_with (first | (go_at_call 90; refine (HDR.out _ (by first | exact HT.out | exact HT.out.only ((Only.refl _ _).drew) (by simp))).mono ?_; rintro e w4 ⟨rfl, ho⟩; (first | (replace ho := undrew ho) | skip); replace HMB := hide (HMB.out.only ho (by simp)); replace HRB := hide (HRB.out.only ho (by simp)); replace HT := hide (HT.out.only ho (by simp)); replace HO := hide (HO.out.trans ho); clear ho; (first | (clear m0 m1 m2 m3 m4 m5 m6 m7 m8 m9 m10 m11 m12) | skip); have mf := HMB.out.frozen; have m0 := HMB.out.cell 0; have m1 := HMB.out.cell 1; have m2 := HMB.out.cell 2; have m3 := HMB.out.cell 3; have m4 := HMB.out.cell 4; have m5 := HMB.out.cell 5; have m6 := HMB.out.cell 6; have m7 := HMB.out.cell 7; have m8 := HMB.out.cell 8; have m9 := HMB.out.cell 9; have m10 := HMB.out.cell 10; have m11 := HMB.out.cell 11; have m12 := HMB.out.cell 12; simp at m0 m1 m2 m3 m4 m5 m6 m7 m8 m9 m10 m11 m12; (first | (clear r0 r1 r2 r3 r4 r5 r6 r7 r8 r9 r10 r11 r12 rf) | skip); have r0 := HRB.out.cell 0; have r1 := HRB.out.cell 1; have r2 := HRB.out.cell 2; have r3 := HRB.out.cell 3; have r4 := HRB.out.cell 4; have r5 := HRB.out.cell 5; have r6 := HRB.out.cell 6; have r7 := HRB.out.cell 7; have r8 := HRB.out.cell 8; have r9 := HRB.out.cell 9; have r10 := HRB.out.cell 10; have r11 := HRB.out.cell 11; have r12 := HRB.out.cell 12; simp at r0 r1 r2 r3 r4 r5 r6 r7 r8 r9 r10 r11 r12; have rf := HRB.out.frozen) | (go_at_call 91; refine (HBD.out _ (by first | exact HT.out | exact HT.out.only ((Only.refl _ _).drew) (by simp))).mono ?_; rintro e w5 ⟨rfl, ho⟩; (first | (replace ho := undrew ho) | skip); replace HMB := hide (HMB.out.only ho (by simp)); replace HRB := hide (HRB.out.only ho (by simp)); replace HT := hide (HT.out.only ho (by simp)); replace HO := hide (HO.out.trans ho); clear ho; (first | (clear m0 m1 m2 m3 m4 m5 m6 m7 m8 m9 m10 m11 m12) | skip); have mf := HMB.out.frozen; have m0 := HMB.out.cell 0; have m1 := HMB.out.cell 1; have m2 := HMB.out.cell 2; have m3 := HMB.out.cell 3; have m4 := HMB.out.cell 4; have m5 := HMB.out.cell 5; have m6 := HMB.out.cell 6; have m7 := HMB.out.cell 7; have m8 := HMB.out.cell 8; have m9 := HMB.out.cell 9; have m10 := HMB.out.cell 10; have m11 := HMB.out.cell 11; have m12 := HMB.out.cell 12; simp at m0 m1 m2 m3 m4 m5 m6 m7 m8 m9 m10 m11 m12; (first | (clear r0 r1 r2 r3 r4 r5 r6 r7 r8 r9 r10 r11 r12 rf) | skip); have r0 := HRB.out.cell 0; have r1 := HRB.out.cell 1; have r2 := HRB.out.cell 2; have r3 := HRB.out.cell 3; have r4 := HRB.out.cell 4; have r5 := HRB.out.cell 5; have r6 := HRB.out.cell 6; have r7 := HRB.out.cell 7; have r8 := HRB.out.cell 8; have r9 := HRB.out.cell 9; have r10 := HRB.out.cell 10; have r11 := HRB.out.cell 11; have r12 := HRB.out.cell 12; simp at r0 r1 r2 r3 r4 r5 r6 r7 r8 r9 r10 r11 r12; have rf := HRB.out.frozen) | (go_at_call 190; refine (HSM.out _ (by first | exact HT.out | exact HT.out.only ((Only.refl _ _).drew) (by simp))).mono ?_; rintro e w6 ⟨rfl, ho⟩; (first | (replace ho := undrew ho) | skip); replace HMB := hide (HMB.out.only ho (by simp)); replace HRB := hide (HRB.out.only ho (by simp)); replace HT := hide (HT.out.only ho (by simp)); replace HO := hide (HO.out.trans ho); clear ho; (first | (clear m0 m1 m2 m3 m4 m5 m6 m7 m8 m9 m10 m11 m12) | skip); have mf := HMB.out.frozen; have m0 := HMB.out.cell 0; have m1 := HMB.out.cell 1; have m2 := HMB.out.cell 2; have m3 := HMB.out.cell 3; have m4 := HMB.out.cell 4; have m5 := HMB.out.cell 5; have m6 := HMB.out.cell 6; have m7 := HMB.out.cell 7; have m8 := HMB.out.cell 8; have m9 := HMB.out.cell 9; have m10 := HMB.out.cell 10; have m11 := HMB.out.cell 11; have m12 := HMB.out.cell 12; simp at m0 m1 m2 m3 m4 m5 m6 m7 m8 m9 m10 m11 m12; (first | (clear r0 r1 r2 r3 r4 r5 r6 r7 r8 r9 r10 r11 r12 rf) | skip); have r0 := HRB.out.cell 0; have r1 := HRB.out.cell 1; have r2 := HRB.out.cell 2; have r3 := HRB.out.cell 3; have r4 := HRB.out.cell 4; have r5 := HRB.out.cell 5; have r6 := HRB.out.cell 6; have r7 := HRB.out.cell 7; have r8 := HRB.out.cell 8; have r9 := HRB.out.cell 9; have r10 := HRB.out.cell 10; have r11 := HRB.out.cell 11; have r12 := HRB.out.cell 12; simp at r0 r1 r2 r3 r4 r5 r6 r7 r8 r9 r10 r11 r12; have rf := HRB.out.frozen))
  all_goals
    have ho := ((Only.refl [w.heap.size] w6).setCell (p := ⟨w.heap.size, 11, none⟩) (.inl (by simp)) (.string s1)).setCell (p := ⟨w.heap.size, 12, none⟩) (.inl (by simp)) (.string ⟨#[48]⟩)
    replace HMB := hide (show Blk ((w6.setCell ⟨w.heap.size, 11, none⟩ (.string s1)).setCell ⟨w.heap.size, 12, none⟩ (.string ⟨#[48]⟩)) w.heap.size 29 #[.int .i64 k, .int .u32 (s : Nat), .int .u32 (r : Nat), .int .u64 (c : Nat), .string x4, .string x5, .string x6, .string x7, .string x8, .string x9, .string x10, .string s1, .string ⟨#[48]⟩] from (by have h := (HMB.out.set_ 11 (.string s1)).set_ 12 (.string ⟨#[48]⟩); simp only [List.setIfInBounds_toArray, List.set_cons_zero, List.set_cons_succ] at h; exact h))
    replace HRB := hide (HRB.out.only ho (by simp))
    replace HO := hide ((HO.out.mono (S' := [w.heap.size]) (by simp)).trans ho |>.mono (S' := []) (by simp))
    replace HT := hide (HTW.out.only HO.out (by simp))
    clear ho
    generalize ((w6.setCell ⟨w.heap.size, 11, none⟩ (.string s1)).setCell ⟨w.heap.size, 12, none⟩ (.string ⟨#[48]⟩)) = w7 at *
    clear m0 m1 m2 m3 m4 m5 m6 m7 m8 m9 m10 m11 m12 mf
    have mf := HMB.out.frozen
    have m0 := HMB.out.cell 0
    have m1 := HMB.out.cell 1
    have m2 := HMB.out.cell 2
    have m3 := HMB.out.cell 3
    have m4 := HMB.out.cell 4
    have m5 := HMB.out.cell 5
    have m6 := HMB.out.cell 6
    have m7 := HMB.out.cell 7
    have m8 := HMB.out.cell 8
    have m9 := HMB.out.cell 9
    have m10 := HMB.out.cell 10
    have m11 := HMB.out.cell 11
    have m12 := HMB.out.cell 12
    simp at m0 m1 m2 m3 m4 m5 m6 m7 m8 m9 m10 m11 m12
    clear r0 r1 r2 r3 r4 r5 r6 r7 r8 r9 r10 r11 r12 rf
    have r0 := HRB.out.cell 0
    have r1 := HRB.out.cell 1
    have r2 := HRB.out.cell 2
    have r3 := HRB.out.cell 3
    have r4 := HRB.out.cell 4
    have r5 := HRB.out.cell 5
    have r6 := HRB.out.cell 6
    have r7 := HRB.out.cell 7
    have r8 := HRB.out.cell 8
    have r9 := HRB.out.cell 9
    have r10 := HRB.out.cell 10
    have r11 := HRB.out.cell 11
    have r12 := HRB.out.cell 12
    simp at r0 r1 r2 r3 r4 r5 r6 r7 r8 r9 r10 r11 r12
    have rf := HRB.out.frozen
    go_wp2_with (go_at_call 109; refine (HTM.out _).mono ?_; rintro e w9 ⟨ho, rfl⟩; replace HMB := hide (HMB.out.only ho (by simp)); replace HRB := hide (HRB.out.only ho (by simp)); replace HT := hide (HT.out.only ho (by simp)); replace HO := hide (HO.out.trans ho); clear ho; (first | (clear m0 m1 m2 m3 m4 m5 m6 m7 m8 m9 m10 m11 m12) | skip); have mf := HMB.out.frozen; have m0 := HMB.out.cell 0; have m1 := HMB.out.cell 1; have m2 := HMB.out.cell 2; have m3 := HMB.out.cell 3; have m4 := HMB.out.cell 4; have m5 := HMB.out.cell 5; have m6 := HMB.out.cell 6; have m7 := HMB.out.cell 7; have m8 := HMB.out.cell 8; have m9 := HMB.out.cell 9; have m10 := HMB.out.cell 10; have m11 := HMB.out.cell 11; have m12 := HMB.out.cell 12; simp at m0 m1 m2 m3 m4 m5 m6 m7 m8 m9 m10 m11 m12; (first | (clear r0 r1 r2 r3 r4 r5 r6 r7 r8 r9 r10 r11 r12 rf) | skip); have r0 := HRB.out.cell 0; have r1 := HRB.out.cell 1; have r2 := HRB.out.cell 2; have r3 := HRB.out.cell 3; have r4 := HRB.out.cell 4; have r5 := HRB.out.cell 5; have r6 := HRB.out.cell 6; have r7 := HRB.out.cell 7; have r8 := HRB.out.cell 8; have r9 := HRB.out.cell 9; have r10 := HRB.out.cell 10; have r11 := HRB.out.cell 11; have r12 := HRB.out.cell 12; simp at r0 r1 r2 r3 r4 r5 r6 r7 r8 r9 r10 r11 r12; have rf := HRB.out.frozen)
    refine bodyPost_ret (results_cell_two rfl _ _ (w.heap.size + 1) 29 _ (0, 0) _ rfl (set13 HRB.out (.int .i64 0) (.int .u32 0) (.int .u32 0) (.int .u64 0) (.string ⟨#[]⟩) (.string ⟨#[]⟩) (.string ⟨#[]⟩) (.string ⟨#[]⟩) (.string ⟨#[]⟩) (.string ⟨#[]⟩) (.string ⟨#[]⟩) (.string ⟨#[]⟩) (.string ⟨#[]⟩)) Tryz.underlying29 rfl (by kernel_rfl)) rfl ?_
    exact signpost HV.out (only13 HO.out (.inr (by omega)) (.int .i64 0) (.int .u32 0) (.int .u32 0) (.int .u64 0) (.string ⟨#[]⟩) (.string ⟨#[]⟩) (.string ⟨#[]⟩) (.string ⟨#[]⟩) (.string ⟨#[]⟩) (.string ⟨#[]⟩) (.string ⟨#[]⟩) (.string ⟨#[]⟩) (.string ⟨#[]⟩))
end
section
open Go.RowKit Go.Deep

theorem Sign_all (w : World) (m : Mg) (p c2 : ByteArray) (hF : m.Fine) (hk0 : -9223372036854775808 ≤ m.k) (hp : p.size ≤ maxLen) (hc : c2.size ≤ maxLen) (htab : Tab w) : Calls Tryz.prog 132 #[.agg m.cells, .string p, .string c2] w (SignPost (signMV m p c2) w) := by
  cases hb : okSign m p c2 with
  | false => exact Sign_bad w m p c2 hF hk0 hp hc htab hb
  | true =>
    by_cases hce : c2 = ByteArray.empty
    · cases hr : rightM (sign2 m p c2) with
      | false => exact Sign_nol w m p c2 hF hk0 hp hc htab hb hce hr
      | true => exact Sign_no w m p c2 hF hk0 hp hc htab hb hce hr
    · exact Sign_yes w m p c2 hF hk0 hp hc htab hb hce ((ok_is hb).2.2.resolve_left hce)
end
section
open Go.RowKit Go.Deep

set_option maxRecDepth 100000 in
set_option maxHeartbeats 12800000 in
theorem knock_wait (w : World) (g s t : Nat) (p : Pr) (k0 : Sk) (self : ByteArray) (hP : PeerIs w g p) (hsk : p.sk = some k0) (hs : self.size ≤ maxLen) (hself : kindT self ≠ 0) (ht1 : t ≤ 1125899906842624) (hold : (t : Int) - k0.st < 5000) (h64 : wrap64 ((t : Int) - k0.st) = (t : Int) - k0.st) :
    Calls Tryz.prog 9 #[.pointer (some ⟨g, 0, none⟩), .int .i64 (t : Int), .string self, .pointer (some ⟨s, 0, none⟩)] w fun e w' => e = .returned (.tuple #[.agg #[.int .i64 0, .int .u32 0, .int .u32 0, .int .u64 0, .string ⟨#[]⟩, .string ⟨#[]⟩, .string ⟨#[]⟩, .string ⟨#[]⟩, .string ⟨#[]⟩, .string ⟨#[]⟩, .string ⟨#[]⟩, .string ⟨#[]⟩, .string ⟨#[]⟩], .int .i64 14]) ∧ Only [] w w' := by
  obtain ⟨hp, hk⟩ := hP
  obtain ⟨hkg, hkb⟩ := hk _ hsk
  obtain ⟨pub, shr, eq, rg, sl, sk, ck, cm, sp, sm, ow, ot, wa, wt⟩ := p
  simp only at hsk
  subst hsk
  obtain ⟨kg, ksd, ke, kc, kh, kbg, kst, km1⟩ := k0
  simp only at hkg hkb hold h64
  unfold skC at hkb
  simp only at hkb
  have HP := hide (show Blk w g 110 #[.string pub, .string shr, .int .i64 eq, .pointer (some ⟨rg, 0, none⟩), .pointer (some ⟨sl, 0, none⟩), .pointer (some ⟨kg, 0, none⟩), .string ck, .int .i64 cm, .bool sp, .int .u64 (sm : Nat), .bool ow, .int .i64 ot, .bool wa, .int .i64 wt] from hp)
  have HKB := hide hkb
  have HO := hide ((Only.refl [] w).alloc (.cells #[.int .i64 0, .int .u32 0, .int .u32 0, .int .u64 0, .string ⟨#[]⟩, .string ⟨#[]⟩, .string ⟨#[]⟩, .string ⟨#[]⟩, .string ⟨#[]⟩, .string ⟨#[]⟩, .string ⟨#[]⟩, .string ⟨#[]⟩, .string ⟨#[]⟩] 29))
  have HZ := hide (Blk.new w 29 #[.int .i64 0, .int .u32 0, .int .u32 0, .int .u64 0, .string ⟨#[]⟩, .string ⟨#[]⟩, .string ⟨#[]⟩, .string ⟨#[]⟩, .string ⟨#[]⟩, .string ⟨#[]⟩, .string ⟨#[]⟩, .string ⟨#[]⟩, .string ⟨#[]⟩])
  replace HP := hide (HP.out.alloc (.cells #[.int .i64 0, .int .u32 0, .int .u32 0, .int .u64 0, .string ⟨#[]⟩, .string ⟨#[]⟩, .string ⟨#[]⟩, .string ⟨#[]⟩, .string ⟨#[]⟩, .string ⟨#[]⟩, .string ⟨#[]⟩, .string ⟨#[]⟩, .string ⟨#[]⟩] 29))
  replace HKB := hide (HKB.out.alloc (.cells #[.int .i64 0, .int .u32 0, .int .u32 0, .int .u64 0, .string ⟨#[]⟩, .string ⟨#[]⟩, .string ⟨#[]⟩, .string ⟨#[]⟩, .string ⟨#[]⟩, .string ⟨#[]⟩, .string ⟨#[]⟩, .string ⟨#[]⟩, .string ⟨#[]⟩] 29))
  have HTM := hide (show timeV (t : Int) = true from by unfold timeV; rw [decide_eq_true (by omega), decide_eq_true (by omega)]; rfl)
  have HKD := hide (fun W => Kind_any W self hs)
  unfold KindPost at HKD
  have hkd : (kindT self == 0) = false := by rw [beq_eq_false_iff_ne]; exact hself
  have hol : decide ((t : Int) - kst < 5000) = true := decide_eq_true hold
  clear hp hk hkg hkb hs hself hold
  generalize kindT self = kd at *
  have p5 := HP.out.cell 5; have k5 := HKB.out.cell 5; simp at p5 k5
  go_enter Tryz.func9, Tryz.ntmps9
  go_upto_region 8 with (first
      | (go_at_call 52; refine (time15 _ _).mono ?_; rintro e wt_ ⟨rfl, rfl⟩; rw [HTM.out])
      | (go_at_call 53; refine (HKD.out _).mono ?_; rintro e w1 ⟨rfl, ho⟩; have HO := hide (HO.out.trans ho); have HP := hide (HP.out.only ho (by simp)); have HKB := hide (HKB.out.only ho (by simp)); have HZ := hide (HZ.out.only ho (by simp)); clear ho p5 k5; have p5 := HP.out.cell 5; have k5 := HKB.out.cell 5; simp at p5 k5))
  rename World => w1
  (iterate 4 go_step)
  first | refine wp_store_mid _ _ _ rfl w.heap.size 0 #[.int .i64 0, .int .u32 0, .int .u32 0, .int .u64 0, .string ⟨#[]⟩, .string ⟨#[]⟩, .string ⟨#[]⟩, .string ⟨#[]⟩, .string ⟨#[]⟩, .string ⟨#[]⟩, .string ⟨#[]⟩, .string ⟨#[]⟩, .string ⟨#[]⟩] rfl rfl (blk_there HZ.out _ rfl) (by kernel_rfl) (by simp [Value.oneCell']) ?_ | refine wpList_store_mid rfl _ _ _ rfl w.heap.size 0 #[.int .i64 0, .int .u32 0, .int .u32 0, .int .u64 0, .string ⟨#[]⟩, .string ⟨#[]⟩, .string ⟨#[]⟩, .string ⟨#[]⟩, .string ⟨#[]⟩, .string ⟨#[]⟩, .string ⟨#[]⟩, .string ⟨#[]⟩, .string ⟨#[]⟩] rfl rfl (blk_there HZ.out _ rfl) (by kernel_rfl) (by simp [Value.oneCell']) ?_
  replace HZ := hide (show Blk (w1.setCells w.heap.size 0 [.int .i64 0, .int .u32 0, .int .u32 0, .int .u64 0, .string ⟨#[]⟩, .string ⟨#[]⟩, .string ⟨#[]⟩, .string ⟨#[]⟩, .string ⟨#[]⟩, .string ⟨#[]⟩, .string ⟨#[]⟩, .string ⟨#[]⟩, .string ⟨#[]⟩]) _ _ #[.int .i64 0, .int .u32 0, .int .u32 0, .int .u64 0, .string ⟨#[]⟩, .string ⟨#[]⟩, .string ⟨#[]⟩, .string ⟨#[]⟩, .string ⟨#[]⟩, .string ⟨#[]⟩, .string ⟨#[]⟩, .string ⟨#[]⟩, .string ⟨#[]⟩] from blk_stored HZ.out [.int .i64 0, .int .u32 0, .int .u32 0, .int .u64 0, .string ⟨#[]⟩, .string ⟨#[]⟩, .string ⟨#[]⟩, .string ⟨#[]⟩, .string ⟨#[]⟩, .string ⟨#[]⟩, .string ⟨#[]⟩, .string ⟨#[]⟩, .string ⟨#[]⟩] rfl)
  replace HO := hide (show Only [] w (w1.setCells w.heap.size 0 [.int .i64 0, .int .u32 0, .int .u32 0, .int .u64 0, .string ⟨#[]⟩, .string ⟨#[]⟩, .string ⟨#[]⟩, .string ⟨#[]⟩, .string ⟨#[]⟩, .string ⟨#[]⟩, .string ⟨#[]⟩, .string ⟨#[]⟩, .string ⟨#[]⟩]) from Only.setCells (.inr (by omega)) 0 [.int .i64 0, .int .u32 0, .int .u32 0, .int .u64 0, .string ⟨#[]⟩, .string ⟨#[]⟩, .string ⟨#[]⟩, .string ⟨#[]⟩, .string ⟨#[]⟩, .string ⟨#[]⟩, .string ⟨#[]⟩, .string ⟨#[]⟩, .string ⟨#[]⟩] HO.out)
  dsimp only
  generalize (w1.setCells w.heap.size 0 [.int .i64 0, .int .u32 0, .int .u32 0, .int .u64 0, .string ⟨#[]⟩, .string ⟨#[]⟩, .string ⟨#[]⟩, .string ⟨#[]⟩, .string ⟨#[]⟩, .string ⟨#[]⟩, .string ⟨#[]⟩, .string ⟨#[]⟩, .string ⟨#[]⟩]) = w9 at *
  (repeat go_step)
  refine bodyPost_ret (results_cell_two rfl _ _ w.heap.size 29 _ (0, 0) _ rfl HZ.out Tryz.underlying29 rfl (by kernel_rfl)) rfl ?_
  exact ⟨rfl, HO.out⟩
theorem starts_of {m : Mg} (h : rightM m = true) (hk : m.k = 1 ∨ m.k = 2) : startsM m = true := by
  unfold startsM
  rw [h]
  rcases hk with h | h <;> rw [h] <;> rfl
/-- What Begin and Sign tell at terms of at most 200 bytes. -/
theorem knock_terms (self e r : ByteArray) (n i : Nat) (ts : Tn 200 self) (te : Tn 200 e) (tr : Tn 200 r) (hn : n < 18446744073709551616) (hi : i < 4294967296) (hp : (pubT r).size ≤ 200) :
    ∃ ep sA sB cC hC m1, (∀ W, Tab W → Calls Tryz.prog 58 #[.string self, .string e, .string (pubT r), .int .u64 (n : Int), .int .u32 (i : Int)] W (BeginPost 0 #[.int .i64 1, .int .u32 (i : Nat), .int .u32 0, .int .u64 0, .string ep, .string sA, .string sB, .string ⟨#[]⟩, .string ⟨#[]⟩, .string ⟨#[]⟩, .string ⟨#[]⟩, .string ⟨#[48]⟩, .string ⟨#[48]⟩] #[.int .u32 (i : Nat), .string e, .string cC, .string hC] W)) ∧
      ∀ W, Tab W → Calls Tryz.prog 132 #[.agg (Mg.mk 1 i 0 0 ep sA sB ⟨#[]⟩ ⟨#[]⟩ ⟨#[]⟩ ⟨#[]⟩ ⟨#[48]⟩ ⟨#[48]⟩).cells, .string (pubT r), .string ⟨#[]⟩] W (SignPost (0, Mg.mk 1 i 0 0 ep sA sB ⟨#[]⟩ ⟨#[]⟩ ⟨#[]⟩ ⟨#[]⟩ m1 ⟨#[48]⟩) W) := by
  obtain ⟨ep, cA, hA, uA, kA, cB, ps, sA, hB, uB, kB, cC, nb, sB, hC, B⟩ := begE self e (pubT r) n
  have S := B.sizes ts te tr hn
  have hF := fine_beg (sd := i) hi S.ep S.sA S.sB (by omega) (by omega) (by omega)
  have hR : rightM (Mg.mk 1 i 0 0 ep sA sB ⟨#[]⟩ ⟨#[]⟩ ⟨#[]⟩ ⟨#[]⟩ ⟨#[48]⟩ ⟨#[48]⟩) = true := begin_right (sd := i) S
  have hk5 := pub_kind tr (by omega)
  have hb : okSign (Mg.mk 1 i 0 0 ep sA sB ⟨#[]⟩ ⟨#[]⟩ ⟨#[]⟩ ⟨#[]⟩ ⟨#[48]⟩ ⟨#[48]⟩) (pubT r) ByteArray.empty = true := by
    unfold okSign
    rw [starts_of hR (.inl rfl), decide_eq_true hk5, decide_eq_true (rfl : ByteArray.empty = ByteArray.empty)]
    rfl
  have hz : sizesM (Mg.mk 1 i 0 0 ep sA sB ⟨#[]⟩ ⟨#[]⟩ ⟨#[]⟩ ⟨#[]⟩ ⟨#[48]⟩ ⟨#[48]⟩) ≤ 8000 := by
    unfold sizesM
    have h1 := S.ep.2
    have h2 := S.sA.2
    have h3 := S.sB.2
    show ep.size + sA.size + sB.size + 0 + 0 + 0 + 0 + 1 + 1 ≤ 8000
    omega
  refine ⟨ep, sA, sB, cC, hC, sumT (doorT (pubT r)) (bodyM (Mg.mk 1 i 0 0 ep sA sB ⟨#[]⟩ ⟨#[]⟩ ⟨#[]⟩ ⟨#[]⟩ ⟨#[48]⟩ ⟨#[48]⟩)), fun W ht => Begin_good B ts te tr hn W ht, fun W ht => ?_⟩
  have h := Sign_all W (Mg.mk 1 i 0 0 ep sA sB ⟨#[]⟩ ⟨#[]⟩ ⟨#[]⟩ ⟨#[]⟩ ⟨#[48]⟩ ⟨#[48]⟩) (pubT r) ByteArray.empty hF (show (-9223372036854775808 : Int) ≤ 1 by decide) (pubT_size r) (Nat.zero_le _) ht
  rw [sign_fine hb hF hz hp (by decide)] at h
  have e2 : sign2 (Mg.mk 1 i 0 0 ep sA sB ⟨#[]⟩ ⟨#[]⟩ ⟨#[]⟩ ⟨#[]⟩ ⟨#[48]⟩ ⟨#[48]⟩) (pubT r) ByteArray.empty = Mg.mk 1 i 0 0 ep sA sB ⟨#[]⟩ ⟨#[]⟩ ⟨#[]⟩ ⟨#[]⟩ (sumT (doorT (pubT r)) (bodyM (Mg.mk 1 i 0 0 ep sA sB ⟨#[]⟩ ⟨#[]⟩ ⟨#[]⟩ ⟨#[]⟩ ⟨#[48]⟩ ⟨#[48]⟩))) ⟨#[48]⟩ := by
    unfold sign2
    rw [if_pos rfl]
    rfl
  rw [e2] at h
  exact h
theorem new_fine (w : World) (pub shr : ByteArray) (ep : Int) (h1 : pub.size ≤ maxLen) (h2 : shr.size ≤ maxLen) (h : cfgV pub shr [] ep = 0) :
    Calls Tryz.prog 14 #[.agg #[.string pub, .string shr, .slice none 0 0, .int .i64 ep]] w fun e w' => ∃ g rg gr sl, e = .returned (.tuple #[.pointer (some ⟨g, 0, none⟩), .int .i64 0]) ∧ Made15 w pub shr ep g rg gr sl w' ∧ Only [] w w' := by
  refine (new_any w pub shr _ [] ep h1 h2 (RdS.nil _ _)).mono ?_
  rintro e w' ⟨ho, h3⟩
  rcases h3 with ⟨_, g, rg, gr, sl, he, hm⟩ | ⟨h3, _⟩
  · exact ⟨g, rg, gr, sl, he, hm, ho⟩
  · exact absurd h h3
def pA1 : ByteArray := ⟨#[112, 40, 97, 49, 41]⟩
theorem pA1_is : pA1 = pubT ⟨#[97, 49]⟩ := (read_make (show parseV pA1 = some (5, 0, [], [⟨#[97, 49]⟩]) by kernel_rfl)).1.symm
theorem cfg_a1 : cfgV pA1 ⟨#[48]⟩ [] 0 = 0 := by
  unfold cfgV
  rw [if_neg (by rw [show kindT pA1 = 5 by kernel_rfl, show kindT (⟨#[48]⟩ : ByteArray) = 1 by kernel_rfl]; decide), if_neg (by decide), if_neg (by decide)]
theorem two_b (x y : UInt8) (h : (parseV ⟨#[x, y]⟩).isSome = true) : Tn 200 ⟨#[x, y]⟩ := ⟨h, by show 2 ≤ 200; omega⟩
theorem sec_5 : secT 5 = ⟨#[97, 53]⟩ := by kernel_rfl
theorem sec_6 : secT 6 = ⟨#[97, 54]⟩ := by kernel_rfl
theorem Around.alloc {w0 w : World} {g s a i m : Nat} {p : Pr} (h : Around w0 w g s a i m p) (o : Obj) : Around w0 (w.alloc o) g s a i m p :=
  ⟨h.tab, h.new.alloc o, h.pg, h.sg, h.ne, Blk.alloc h.src o, ⟨h.peer.1.alloc o, fun k e => ⟨(h.peer.2 k e).1, (h.peer.2 k e).2.alloc o⟩⟩, h.ks⟩
theorem Around.only {w0 w w' : World} {g s a i m : Nat} {p : Pr} (h : Around w0 w g s a i m p) (ho : Only [] w w') : Around w0 w' g s a i m p :=
  ⟨h.tab, h.new.trans ho, h.pg, h.sg, h.ne, Blk.only h.src ho (by simp), h.peer.only ho (by simp) (fun _ _ => by simp), h.ks⟩
theorem Around.knock {w0 w w' : World} {g s a i m m' : Nat} {p : Pr} {mg : Array Value} {sk : Sk} {e : Ending} (h : Around w0 w g s a i m p) (hk : KnockPost w g s a i m' p mg sk e w') :
    ∃ k, Around w0 w' g s (a + 1) (i + 1) m' { p with sk := some { sk with g := k } } := by
  obtain ⟨_, ⟨k, hkw, hp⟩, hs, ho⟩ := hk
  have h1 := h.new.size
  have h2 := Blk.lt h.src
  refine ⟨k, h.tab, since h.new (by have := h.pg; have := h.sg; simp; omega) ho, h.pg, h.sg, h.ne, hs, hp, ?_⟩
  intro k' e
  cases e
  exact ⟨by show w0.heap.size ≤ k; omega, by show k ≠ s; omega⟩
set_option maxRecDepth 100000 in
set_option maxHeartbeats 12800000 in
theorem awake15 (w : World) (htab : Tab w) : Calls Tryz.prog 7 #[] w fun e w' => e = .returned (.bool true) ∧ Only [] w w' := by
  obtain ⟨ep, sA, sB, cC, hC, m1, KB1, KS1⟩ := knock_terms ⟨#[97, 50]⟩ (secT 5) ⟨#[97, 49]⟩ 1000 5 (two_b _ _ (by kernel_rfl)) (by rw [sec_5]; exact two_b _ _ (by kernel_rfl)) (two_b _ _ (by kernel_rfl)) (by omega) (by omega) (by rw [← pA1_is]; decide)
  obtain ⟨fp, tA, tB, dC, jC, m2, KB2, KS2⟩ := knock_terms ⟨#[97, 50]⟩ (secT 6) ⟨#[97, 49]⟩ 6000 6 (two_b _ _ (by kernel_rfl)) (by rw [sec_6]; exact two_b _ _ (by kernel_rfl)) (two_b _ _ (by kernel_rfl)) (by omega) (by omega) (by rw [← pA1_is]; decide)
  rw [← pA1_is] at KB1 KS1 KB2 KS2
  have ka2 : kindT ⟨#[97, 50]⟩ ≠ 0 := by rw [show kindT ⟨#[97, 50]⟩ = 2 by kernel_rfl]; decide
  have hsz : (⟨#[97, 50]⟩ : ByteArray).size ≤ maxLen := by unfold maxLen; show 2 ≤ _; omega
  have KN := hide (fun W => new_fine W pA1 ⟨#[48]⟩ 0 (by unfold maxLen; show 5 ≤ _; omega) (by unfold maxLen; show 1 ≤ _; omega) cfg_a1)
  have K1 := hide (fun (W : World) (g s rg sl : Nat) (hA : Around w W g s 5 5 0 (newP pA1 ⟨#[48]⟩ 0 rg sl)) => (knock_first w W g s 5 5 0 1000 (newP pA1 ⟨#[48]⟩ 0 rg sl) ⟨#[97, 50]⟩ ep sA sB cC hC m1 ⟨#[48]⟩ hA hsz ka2 (by omega) (by omega) (by omega) (by omega) rfl (by show wrap64 (1000 - 0) = 1000 - 0; unfold wrap64; omega) KB1 (by have e : byV ((1000 : Nat) : Int) (newP pA1 ⟨#[48]⟩ 0 rg sl).cm (newP pA1 ⟨#[48]⟩ 0 rg sl).ck = ⟨#[]⟩ := (by show (if _ then _ else _) = _; split <;> rfl); rw [e]; exact KS1) : Calls Tryz.prog 9 #[.pointer (some ⟨g, 0, none⟩), .int .i64 1000, .string ⟨#[97, 50]⟩, .pointer (some ⟨s, 0, none⟩)] W _))
  have KW := hide (fun (W : World) (g s rg sl k : Nat) (hA : Around w W g s (5 + 1) (5 + 1) (max 0 1000 + 1) ({ newP pA1 ⟨#[48]⟩ 0 rg sl with sk := some { (⟨0, 5, secT 5, cC, hC, ((1000 : Nat) : Int), ((1000 : Nat) : Int), m1⟩ : Sk) with g := k } })) => (knock_wait W g s 5999 ({ newP pA1 ⟨#[48]⟩ 0 rg sl with sk := some { (⟨0, 5, secT 5, cC, hC, ((1000 : Nat) : Int), ((1000 : Nat) : Int), m1⟩ : Sk) with g := k } }) _ ⟨#[97, 50]⟩ hA.peer rfl hsz ka2 (by omega) (show ((5999 : Nat) : Int) - ((1000 : Nat) : Int) < 5000 by decide) (by show wrap64 (5999 - 1000) = 5999 - 1000; unfold wrap64; omega) : Calls Tryz.prog 9 #[.pointer (some ⟨g, 0, none⟩), .int .i64 5999, .string ⟨#[97, 50]⟩, .pointer (some ⟨s, 0, none⟩)] W _))
  have K3 := hide (fun (W : World) (g s rg sl k : Nat) (hA : Around w W g s (5 + 1) (5 + 1) (max 0 1000 + 1) ({ newP pA1 ⟨#[48]⟩ 0 rg sl with sk := some { (⟨0, 5, secT 5, cC, hC, ((1000 : Nat) : Int), ((1000 : Nat) : Int), m1⟩ : Sk) with g := k } })) => (knock_again w W g s (5 + 1) (5 + 1) (max 0 1000 + 1) 6000 ({ newP pA1 ⟨#[48]⟩ 0 rg sl with sk := some { (⟨0, 5, secT 5, cC, hC, ((1000 : Nat) : Int), ((1000 : Nat) : Int), m1⟩ : Sk) with g := k } }) ⟨#[97, 50]⟩ fp tA tB dC jC m2 ⟨#[48]⟩ hA hsz ka2 (by omega) (by omega) (by omega) (by omega) _ rfl (show ¬ ((6000 : Nat) : Int) - ((1000 : Nat) : Int) < 5000 by decide) (by show wrap64 (6000 - 1000) = 6000 - 1000; unfold wrap64; omega) (by show wrap64 (6000 - 0) = 6000 - 0; unfold wrap64; omega) KB2 (by have e : byV ((6000 : Nat) : Int) ({ newP pA1 ⟨#[48]⟩ 0 rg sl with sk := some { (⟨0, 5, secT 5, cC, hC, ((1000 : Nat) : Int), ((1000 : Nat) : Int), m1⟩ : Sk) with g := k } }).cm ({ newP pA1 ⟨#[48]⟩ 0 rg sl with sk := some { (⟨0, 5, secT 5, cC, hC, ((1000 : Nat) : Int), ((1000 : Nat) : Int), m1⟩ : Sk) with g := k } }).ck = ⟨#[]⟩ := (by show (if _ then _ else _) = _; split <;> rfl); rw [e]; exact KS2) : Calls Tryz.prog 9 #[.pointer (some ⟨g, 0, none⟩), .int .i64 6000, .string ⟨#[97, 50]⟩, .pointer (some ⟨s, 0, none⟩)] W _))
  have KSR := hide (fun W => (src_new 5 5 W : Calls Tryz.prog 8 #[.int .u32 5, .int .u32 5] W _))
  have HT := hide htab
  clear KB1 KS1 KB2 KS2 htab
  go_enter Tryz.func7, Tryz.ntmps7
  go_upto_region 2 with (go_at_call 14; refine (KN.out _).mono ?_; rintro e w1 ⟨g, rg, gr, sl, rfl, hm, ho⟩; have HM := hide hm; have HO := hide ho; clear hm ho)
  rename World => w1
  go_upto_region 3 with (go_at_call 8; refine (KSR.out _).mono ?_; rintro e w2 ⟨rfl, hw2⟩; have HA := hide (show Around w w2 g w1.heap.size 5 5 0 (newP pA1 ⟨#[48]⟩ 0 rg sl) from ⟨HT.out, by rw [hw2]; exact HO.out.alloc _, HM.out.1.1, HO.out.size, Nat.ne_of_lt HM.out.2.2.1.1.lt, by rw [hw2]; exact Blk.new w1 _ _, by rw [hw2]; exact ⟨HM.out.2.2.1.1.alloc _, fun _ h => by cases h⟩, fun _ h => by cases h⟩); clear hw2)
  generalize w1.heap.size = s at *
  go_upto_region 4 with (go_at_call 9; refine (K1.out _ _ _ _ _ HA.out).mono ?_; rintro e w3 hk; obtain ⟨k, hA2⟩ := HA.out.knock hk; obtain ⟨rfl, _⟩ := hk; have HA2 := hide hA2; clear hA2 HA K1)
  rename World => w3
  replace HA2 := hide (HA2.out.alloc (.cells #[.int .i64 1, .int .u32 5, .int .u32 0, .int .u64 0, .string ep, .string sA, .string sB, .string ⟨#[]⟩, .string ⟨#[]⟩, .string ⟨#[]⟩, .string ⟨#[]⟩, .string m1, .string ⟨#[48]⟩] 29))
  generalize w3.alloc (.cells #[.int .i64 1, .int .u32 5, .int .u32 0, .int .u64 0, .string ep, .string sA, .string sB, .string ⟨#[]⟩, .string ⟨#[]⟩, .string ⟨#[]⟩, .string ⟨#[]⟩, .string m1, .string ⟨#[48]⟩] 29) = w4 at *
  go_upto_region 5 with (go_at_call 9; refine (KW.out _ _ _ _ _ _ HA2.out).mono ?_; rintro e w5 ⟨rfl, ho⟩; replace HA2 := hide (HA2.out.only ho); clear ho KW)
  rename World => w5
  replace HA2 := hide (HA2.out.alloc (.cells #[.int .i64 0, .int .u32 0, .int .u32 0, .int .u64 0, .string ⟨#[]⟩, .string ⟨#[]⟩, .string ⟨#[]⟩, .string ⟨#[]⟩, .string ⟨#[]⟩, .string ⟨#[]⟩, .string ⟨#[]⟩, .string ⟨#[]⟩, .string ⟨#[]⟩] 29))
  generalize w5.alloc (.cells #[.int .i64 0, .int .u32 0, .int .u32 0, .int .u64 0, .string ⟨#[]⟩, .string ⟨#[]⟩, .string ⟨#[]⟩, .string ⟨#[]⟩, .string ⟨#[]⟩, .string ⟨#[]⟩, .string ⟨#[]⟩, .string ⟨#[]⟩, .string ⟨#[]⟩] 29) = w6 at *
  go_upto_region 6 with (go_at_call 9; refine (K3.out _ _ _ _ _ _ HA2.out).mono ?_; rintro e w7 hk; obtain ⟨k2, hA3⟩ := HA2.out.knock hk; obtain ⟨rfl, _⟩ := hk; have HO3 := hide hA3.new; clear hA3 HA2 K3)
  rename World => w7
  replace HO3 := hide (HO3.out.alloc (.cells #[.int .i64 1, .int .u32 6, .int .u32 0, .int .u64 0, .string fp, .string tA, .string tB, .string ⟨#[]⟩, .string ⟨#[]⟩, .string ⟨#[]⟩, .string ⟨#[]⟩, .string m2, .string ⟨#[48]⟩] 29))
  go_wp2_with fail
  go_ret
  exact ⟨rfl, HO3.out⟩
end
end Go.Proofs.YtcokjoidpnfjhaaGreatDoor

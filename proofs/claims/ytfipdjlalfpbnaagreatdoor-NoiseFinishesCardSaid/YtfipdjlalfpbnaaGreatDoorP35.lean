/-
  Walks and plain words (texts No5, Nh0). No condition beyond those that each theorem states.
-/
import Derived.Test.YtfipdjlalfpbnaaGreatDoorP27
import Derived.Test.YtfipdjlalfpbnaaGreatDoorP30
import Derived.Test.YtfipdjlalfpbnaaGreatDoorP34
namespace Go.Proofs.YtfipdjlalfpbnaaGreatDoor
section
open Go.RowKit Go.Deep

set_option maxRecDepth 100000 in
set_option maxHeartbeats 12800000 in
theorem Begin_any (w : World) (s e tt : ByteArray) (n sd : Nat) (hs : s.size ≤ maxLen) (he : e.size ≤ maxLen) (ht : tt.size ≤ maxLen) (hn : n < 18446744073709551616) (htab : Tab w) :
    Calls Tryz.prog 38 #[.string s, .string e, .string tt, .int .u64 n, .int .u32 sd] w (if (termsB [s, e] && pubsB [tt]) = false then BeginPost 3 #[.int .i64 0, .int .u32 0, .int .u32 0, .int .u64 0, .string ⟨#[]⟩, .string ⟨#[]⟩, .string ⟨#[]⟩, .string ⟨#[]⟩, .string ⟨#[]⟩, .string ⟨#[]⟩, .string ⟨#[]⟩, .string ⟨#[]⟩, .string ⟨#[]⟩] #[.int .u32 0, .string ⟨#[]⟩, .string ⟨#[]⟩, .string ⟨#[]⟩] w else if madeB [(begV s e tt n).eph, (begV s e tt n).sA, (begV s e tt n).sB, (begV s e tt n).c, (begV s e tt n).h] = false then BeginPost 5 #[.int .i64 0, .int .u32 0, .int .u32 0, .int .u64 0, .string ⟨#[]⟩, .string ⟨#[]⟩, .string ⟨#[]⟩, .string ⟨#[]⟩, .string ⟨#[]⟩, .string ⟨#[]⟩, .string ⟨#[]⟩, .string ⟨#[]⟩, .string ⟨#[]⟩] #[.int .u32 0, .string ⟨#[]⟩, .string ⟨#[]⟩, .string ⟨#[]⟩] w else BeginPost 0 #[.int .i64 1, .int .u32 (sd : Nat), .int .u32 0, .int .u64 0, .string (begV s e tt n).eph, .string (begV s e tt n).sA, .string (begV s e tt n).sB, .string ⟨#[]⟩, .string ⟨#[]⟩, .string ⟨#[]⟩, .string ⟨#[]⟩, .string ⟨#[48]⟩, .string ⟨#[48]⟩] #[.int .u32 (sd : Nat), .string e, .string (begV s e tt n).c, .string (begV s e tt n).h] w) := by
  obtain ⟨ep, e_ep⟩ : ∃ x, pubT e = x := ⟨_, rfl⟩
  obtain ⟨cA, e_cA⟩ : ∃ x, begC ep = x := ⟨_, rfl⟩
  obtain ⟨hA, e_hA⟩ : ∃ x, begH tt ep = x := ⟨_, rfl⟩
  obtain ⟨uA, e_uA⟩ : ∃ x, agreeT e tt = x := ⟨_, rfl⟩
  obtain ⟨kA, e_kA⟩ : ∃ x, kdfT 2 cA uA = x := ⟨_, rfl⟩
  obtain ⟨cB, e_cB⟩ : ∃ x, kdfT 1 cA uA = x := ⟨_, rfl⟩
  obtain ⟨ps, e_ps⟩ : ∃ x, pubT s = x := ⟨_, rfl⟩
  obtain ⟨sA, e_sA⟩ : ∃ x, sealN kA ps hA = x := ⟨_, rfl⟩
  obtain ⟨hB, e_hB⟩ : ∃ x, hashT hA sA = x := ⟨_, rfl⟩
  obtain ⟨uB, e_uB⟩ : ∃ x, agreeT s tt = x := ⟨_, rfl⟩
  obtain ⟨kB, e_kB⟩ : ∃ x, kdfT 2 cB uB = x := ⟨_, rfl⟩
  obtain ⟨cC, e_cC⟩ : ∃ x, kdfT 1 cB uB = x := ⟨_, rfl⟩
  obtain ⟨nb, e_nb⟩ : ∃ x, numT n = x := ⟨_, rfl⟩
  obtain ⟨sB, e_sB⟩ : ∃ x, sealN kB nb hB = x := ⟨_, rfl⟩
  obtain ⟨hC, e_hC⟩ : ∃ x, hashT hB sB = x := ⟨_, rfl⟩
  have hbv : begV s e tt n = ⟨ep, sA, sB, cC, hC⟩ := by
    unfold begV
    simp only [e_ep, e_cA, e_hA, e_uA, e_kA, e_cB, e_ps, e_sA, e_hB, e_uB, e_kB, e_cC, e_nb, e_sB, e_hC]
  rw [hbv]
  by_cases hb : (termsB [s, e] && pubsB [tt]) = false
  · rw [if_pos hb]; exact Begin_form w s e tt n sd hs he ht hb
  · rw [if_neg hb]
    have hb2 : (termsB [s, e] && pubsB [tt]) = true := by simpa using hb
    rw [Bool.and_eq_true] at hb2
    by_cases hm : madeB [ep, sA, sB, cC, hC] = false
    · rw [if_pos hm]
      exact Begin_long w s e tt n sd hs he ht hn htab hb2.1 hb2.2 ep cA hA uA kA cB ps sA hB uB kB cC nb sB hC e_ep e_cA e_hA e_uA e_kA e_cB e_ps e_sA e_hB e_uB e_kB e_cC e_nb e_sB e_hC hm
    · rw [if_neg hm]
      have hm2 : madeB [ep, sA, sB, cC, hC] = true := by simpa using hm
      exact Begin_fine w s e tt n sd hs he ht hn htab hb2.1 hb2.2 ep cA hA uA kA cB ps sA hB uB kB cC nb sB hC e_ep e_cA e_hA e_uA e_kA e_cB e_ps e_sA e_hB e_uB e_kB e_cC e_nb e_sB e_hC hm2
end
section
open Go.RowKit Go.Deep

theorem set6 {w : World} {R : Nat} {t : TypeId} {a0 a1 a2 a3 a4 a5 : Value} (h : Blk w R t #[a0, a1, a2, a3, a4, a5]) (v0 v1 v2 v3 v4 v5 : Value) : Blk ((((((w.setCell ⟨R, 0, none⟩ v0).setCell ⟨R, 1, none⟩ v1).setCell ⟨R, 2, none⟩ v2).setCell ⟨R, 3, none⟩ v3).setCell ⟨R, 4, none⟩ v4).setCell ⟨R, 5, none⟩ v5) R t #[v0, v1, v2, v3, v4, v5] := by
  have h2 := ((((((h.set_ 0 v0).set_ 1 v1).set_ 2 v2).set_ 3 v3).set_ 4 v4).set_ 5 v5)
  simp only [List.setIfInBounds_toArray, List.set_cons_zero, List.set_cons_succ] at h2
  exact h2
theorem only6 {S : List Nat} {a w : World} {R : Nat} (h : Only S a w) (hR : R ∈ S ∨ a.heap.size ≤ R) (v0 v1 v2 v3 v4 v5 : Value) : Only S a ((((((w.setCell ⟨R, 0, none⟩ v0).setCell ⟨R, 1, none⟩ v1).setCell ⟨R, 2, none⟩ v2).setCell ⟨R, 3, none⟩ v3).setCell ⟨R, 4, none⟩ v4).setCell ⟨R, 5, none⟩ v5) :=
  ((((((h.setCell (p := ⟨R, 0, none⟩) hR v0).setCell (p := ⟨R, 1, none⟩) hR v1).setCell (p := ⟨R, 2, none⟩) hR v2).setCell (p := ⟨R, 3, none⟩) hR v3).setCell (p := ⟨R, 4, none⟩) hR v4).setCell (p := ⟨R, 5, none⟩) hR v5)
theorem open_max (t k : ByteArray) (n : Nat) (v : ByteArray) : (openT t k n v).1.size ≤ maxLen := by
  unfold openT
  cases hp : parseV t with
  | none => exact Nat.zero_le _
  | some nd =>
    obtain ⟨k', m, b, l⟩ := nd
    simp only
    by_cases hk : k' ≠ 10
    · rw [if_pos hk]; exact Nat.zero_le _
    · rw [if_neg hk]
      obtain ⟨_, _, _, h4, _, _, _, _, h9, _⟩ := read_make hp
      obtain ⟨p0, p1, p2, rfl⟩ := three_of (Decidable.not_not.1 hk) h4
      have hs := parse_size hp
      have h1 := h9 p1 (by simp)
      by_cases hc : [p0, p1, p2].getD 0 ByteArray.empty = k ∧ m = n ∧ [p0, p1, p2].getD 2 ByteArray.empty = v
      · rw [if_pos hc]; show p1.size ≤ maxLen; unfold maxLen; omega
      · rw [if_neg hc]; exact Nat.zero_le _
def HeaPost (k : Int) (cs : Array Value) (w : World) (e : Ending) (w' : World) : Prop := e = .returned (.tuple #[.agg cs, .int .i64 k]) ∧ Only [] w w'
set_option maxRecDepth 100000 in
set_option maxHeartbeats 12800000 in
theorem Hear_f1 (w : World) (sc : ByteArray) (k : Int) (sn r cc : Nat) (x4 x5 x6 x7 x8 x9 x10 x11 x12 : ByteArray) (hsc : sc.size ≤ maxLen) (hF : (Mg.mk k sn r cc x4 x5 x6 x7 x8 x9 x10 x11 x12).Fine) (hb : termsB [sc] = false) : Calls Tryz.prog 41 #[.string sc, .agg #[.int .i64 k, .int .u32 (sn : Nat), .int .u32 (r : Nat), .int .u64 (cc : Nat), .string x4, .string x5, .string x6, .string x7, .string x8, .string x9, .string x10, .string x11, .string x12]] w (HeaPost 3 #[.int .u32 0, .string ⟨#[]⟩, .int .u64 0, .string ⟨#[]⟩, .string ⟨#[]⟩, .string ⟨#[]⟩] w) := by
  have KT := hide (fun W G hG => terms_new1 W G hG sc hsc)
  have KP := hide (fun W G hG => pubs_new1 W G hG x4 hF.x4)
  have HTM := hide (fun W => Terms_any W (Mg.mk k sn r cc x4 x5 x6 x7 x8 x9 x10 x11 x12) hF)
  have HTX := hide (fun (h : rightM (Mg.mk k sn r cc x4 x5 x6 x7 x8 x9 x10 x11 x12) = true) => texts_pos h)
  unfold RetB at KT KP
  unfold TermsPost at HTM
  have HMB := hide ((Blk.new w 25 #[.int .i64 k, .int .u32 (sn : Nat), .int .u32 (r : Nat), .int .u64 (cc : Nat), .string x4, .string x5, .string x6, .string x7, .string x8, .string x9, .string x10, .string x11, .string x12]).alloc (.cells #[.int .u32 0, .string ⟨#[]⟩, .int .u64 0, .string ⟨#[]⟩, .string ⟨#[]⟩, .string ⟨#[]⟩] 84))
  have HR := hide (Blk.new (w.alloc (.cells #[.int .i64 k, .int .u32 (sn : Nat), .int .u32 (r : Nat), .int .u64 (cc : Nat), .string x4, .string x5, .string x6, .string x7, .string x8, .string x9, .string x10, .string x11, .string x12] 25)) 84 #[.int .u32 0, .string ⟨#[]⟩, .int .u64 0, .string ⟨#[]⟩, .string ⟨#[]⟩, .string ⟨#[]⟩])
  rw [World.size_alloc] at HR
  have HO := hide (((Only.refl [] w).alloc (.cells #[.int .i64 k, .int .u32 (sn : Nat), .int .u32 (r : Nat), .int .u64 (cc : Nat), .string x4, .string x5, .string x6, .string x7, .string x8, .string x9, .string x10, .string x11, .string x12] 25)).alloc (.cells #[.int .u32 0, .string ⟨#[]⟩, .int .u64 0, .string ⟨#[]⟩, .string ⟨#[]⟩, .string ⟨#[]⟩] 84))
  rw [hb] at KT
  clear hb HTM HTX KP
  clear hsc hF
  go_enter Tryz.func41, Tryz.ntmps41
  go_upto_region 1 with fail
  generalize ((w.alloc (.cells #[.int .i64 k, .int .u32 (sn : Nat), .int .u32 (r : Nat), .int .u64 (cc : Nat), .string x4, .string x5, .string x6, .string x7, .string x8, .string x9, .string x10, .string x11, .string x12] 25)).alloc (.cells #[.int .u32 0, .string ⟨#[]⟩, .int .u64 0, .string ⟨#[]⟩, .string ⟨#[]⟩, .string ⟨#[]⟩] 84)) = v0 at *
  obtain ⟨m0, m1, m2, m3, m4, m5, m6, m7, m8, m9, m10, m11, m12⟩ := cells13 HMB.out; obtain ⟨r0, r1, r2, r3, r4, r5⟩ := cells6 HR.out; have rf := HR.out.frozen
  go_wp2_with (first
    | (go_at_call 88; refine (KT.out _ _ rfl).mono ?_; rintro e wt ⟨rfl, ho⟩; replace HMB := hon HMB ho; replace HR := hon HR ho; replace HO := htr HO ho; clear ho; (first | (clear m0 m1 m2 m3 m4 m5 m6 m7 m8 m9 m10 m11 m12; clear r0 r1 r2 r3 r4 r5 rf) | skip); obtain ⟨m0, m1, m2, m3, m4, m5, m6, m7, m8, m9, m10, m11, m12⟩ := cells13 HMB.out; obtain ⟨r0, r1, r2, r3, r4, r5⟩ := cells6 HR.out; have rf := HR.out.frozen))
  refine bodyPost_ret (results_cell_two rfl _ _ (w.heap.size + 1) 84 _ (0, 0) _ rfl (set6 HR.out (.int .u32 0) (.string ⟨#[]⟩) (.int .u64 0) (.string ⟨#[]⟩) (.string ⟨#[]⟩) (.string ⟨#[]⟩)) Tryz.underlying84 rfl (by kernel_rfl)) rfl ?_
  exact ⟨rfl, only6 HO.out (.inr (by omega)) (.int .u32 0) (.string ⟨#[]⟩) (.int .u64 0) (.string ⟨#[]⟩) (.string ⟨#[]⟩) (.string ⟨#[]⟩)⟩
set_option maxRecDepth 100000 in
set_option maxHeartbeats 12800000 in
theorem Hear_f2 (w : World) (sc : ByteArray) (k : Int) (sn r cc : Nat) (x4 x5 x6 x7 x8 x9 x10 x11 x12 : ByteArray) (hsc : sc.size ≤ maxLen) (hF : (Mg.mk k sn r cc x4 x5 x6 x7 x8 x9 x10 x11 x12).Fine) (hb : termsB [sc] = true) (hr : rightM (Mg.mk k sn r cc x4 x5 x6 x7 x8 x9 x10 x11 x12) = false) : Calls Tryz.prog 41 #[.string sc, .agg #[.int .i64 k, .int .u32 (sn : Nat), .int .u32 (r : Nat), .int .u64 (cc : Nat), .string x4, .string x5, .string x6, .string x7, .string x8, .string x9, .string x10, .string x11, .string x12]] w (HeaPost 3 #[.int .u32 0, .string ⟨#[]⟩, .int .u64 0, .string ⟨#[]⟩, .string ⟨#[]⟩, .string ⟨#[]⟩] w) := by
  have KT := hide (fun W G hG => terms_new1 W G hG sc hsc)
  have KP := hide (fun W G hG => pubs_new1 W G hG x4 hF.x4)
  have HTM := hide (fun W => Terms_any W (Mg.mk k sn r cc x4 x5 x6 x7 x8 x9 x10 x11 x12) hF)
  have HTX := hide (fun (h : rightM (Mg.mk k sn r cc x4 x5 x6 x7 x8 x9 x10 x11 x12) = true) => texts_pos h)
  unfold RetB at KT KP
  unfold TermsPost at HTM
  have HMB := hide ((Blk.new w 25 #[.int .i64 k, .int .u32 (sn : Nat), .int .u32 (r : Nat), .int .u64 (cc : Nat), .string x4, .string x5, .string x6, .string x7, .string x8, .string x9, .string x10, .string x11, .string x12]).alloc (.cells #[.int .u32 0, .string ⟨#[]⟩, .int .u64 0, .string ⟨#[]⟩, .string ⟨#[]⟩, .string ⟨#[]⟩] 84))
  have HR := hide (Blk.new (w.alloc (.cells #[.int .i64 k, .int .u32 (sn : Nat), .int .u32 (r : Nat), .int .u64 (cc : Nat), .string x4, .string x5, .string x6, .string x7, .string x8, .string x9, .string x10, .string x11, .string x12] 25)) 84 #[.int .u32 0, .string ⟨#[]⟩, .int .u64 0, .string ⟨#[]⟩, .string ⟨#[]⟩, .string ⟨#[]⟩])
  rw [World.size_alloc] at HR
  have HO := hide (((Only.refl [] w).alloc (.cells #[.int .i64 k, .int .u32 (sn : Nat), .int .u32 (r : Nat), .int .u64 (cc : Nat), .string x4, .string x5, .string x6, .string x7, .string x8, .string x9, .string x10, .string x11, .string x12] 25)).alloc (.cells #[.int .u32 0, .string ⟨#[]⟩, .int .u64 0, .string ⟨#[]⟩, .string ⟨#[]⟩, .string ⟨#[]⟩] 84))
  rw [hb] at KT
  rw [hr] at HTM
  simp only [Bool.false_eq_true, if_false] at HTM
  clear hb hr HTX KP
  clear hsc hF
  go_enter Tryz.func41, Tryz.ntmps41
  go_upto_region 1 with fail
  generalize ((w.alloc (.cells #[.int .i64 k, .int .u32 (sn : Nat), .int .u32 (r : Nat), .int .u64 (cc : Nat), .string x4, .string x5, .string x6, .string x7, .string x8, .string x9, .string x10, .string x11, .string x12] 25)).alloc (.cells #[.int .u32 0, .string ⟨#[]⟩, .int .u64 0, .string ⟨#[]⟩, .string ⟨#[]⟩, .string ⟨#[]⟩] 84)) = v0 at *
  obtain ⟨m0, m1, m2, m3, m4, m5, m6, m7, m8, m9, m10, m11, m12⟩ := cells13 HMB.out; obtain ⟨r0, r1, r2, r3, r4, r5⟩ := cells6 HR.out; have rf := HR.out.frozen
  go_wp2_with (first
    | (go_at_call 88; refine (KT.out _ _ rfl).mono ?_; rintro e wt ⟨rfl, ho⟩; replace HMB := hon HMB ho; replace HR := hon HR ho; replace HO := htr HO ho; clear ho; (first | (clear m0 m1 m2 m3 m4 m5 m6 m7 m8 m9 m10 m11 m12; clear r0 r1 r2 r3 r4 r5 rf) | skip); obtain ⟨m0, m1, m2, m3, m4, m5, m6, m7, m8, m9, m10, m11, m12⟩ := cells13 HMB.out; obtain ⟨r0, r1, r2, r3, r4, r5⟩ := cells6 HR.out; have rf := HR.out.frozen)
    | (go_at_call 56; refine (HTM.out _).mono ?_; rintro e wq ⟨ho, rfl⟩; replace HMB := hon HMB ho; replace HR := hon HR ho; replace HO := htr HO ho; clear ho; (first | (clear m0 m1 m2 m3 m4 m5 m6 m7 m8 m9 m10 m11 m12; clear r0 r1 r2 r3 r4 r5 rf) | skip); obtain ⟨m0, m1, m2, m3, m4, m5, m6, m7, m8, m9, m10, m11, m12⟩ := cells13 HMB.out; obtain ⟨r0, r1, r2, r3, r4, r5⟩ := cells6 HR.out; have rf := HR.out.frozen))
  refine bodyPost_ret (results_cell_two rfl _ _ (w.heap.size + 1) 84 _ (0, 0) _ rfl (set6 HR.out (.int .u32 0) (.string ⟨#[]⟩) (.int .u64 0) (.string ⟨#[]⟩) (.string ⟨#[]⟩) (.string ⟨#[]⟩)) Tryz.underlying84 rfl (by kernel_rfl)) rfl ?_
  exact ⟨rfl, only6 HO.out (.inr (by omega)) (.int .u32 0) (.string ⟨#[]⟩) (.int .u64 0) (.string ⟨#[]⟩) (.string ⟨#[]⟩) (.string ⟨#[]⟩)⟩
set_option maxRecDepth 100000 in
set_option maxHeartbeats 12800000 in
theorem Hear_f3 (w : World) (sc : ByteArray) (k : Int) (sn r cc : Nat) (x4 x5 x6 x7 x8 x9 x10 x11 x12 : ByteArray) (hsc : sc.size ≤ maxLen) (hF : (Mg.mk k sn r cc x4 x5 x6 x7 x8 x9 x10 x11 x12).Fine) (hb : termsB [sc] = true) (hr : rightM (Mg.mk k sn r cc x4 x5 x6 x7 x8 x9 x10 x11 x12) = true) (hk : k ≠ 1) : Calls Tryz.prog 41 #[.string sc, .agg #[.int .i64 k, .int .u32 (sn : Nat), .int .u32 (r : Nat), .int .u64 (cc : Nat), .string x4, .string x5, .string x6, .string x7, .string x8, .string x9, .string x10, .string x11, .string x12]] w (HeaPost 3 #[.int .u32 0, .string ⟨#[]⟩, .int .u64 0, .string ⟨#[]⟩, .string ⟨#[]⟩, .string ⟨#[]⟩] w) := by
  have KT := hide (fun W G hG => terms_new1 W G hG sc hsc)
  have KP := hide (fun W G hG => pubs_new1 W G hG x4 hF.x4)
  have HTM := hide (fun W => Terms_any W (Mg.mk k sn r cc x4 x5 x6 x7 x8 x9 x10 x11 x12) hF)
  have HTX := hide (fun (h : rightM (Mg.mk k sn r cc x4 x5 x6 x7 x8 x9 x10 x11 x12) = true) => texts_pos h)
  unfold RetB at KT KP
  unfold TermsPost at HTM
  have HMB := hide ((Blk.new w 25 #[.int .i64 k, .int .u32 (sn : Nat), .int .u32 (r : Nat), .int .u64 (cc : Nat), .string x4, .string x5, .string x6, .string x7, .string x8, .string x9, .string x10, .string x11, .string x12]).alloc (.cells #[.int .u32 0, .string ⟨#[]⟩, .int .u64 0, .string ⟨#[]⟩, .string ⟨#[]⟩, .string ⟨#[]⟩] 84))
  have HR := hide (Blk.new (w.alloc (.cells #[.int .i64 k, .int .u32 (sn : Nat), .int .u32 (r : Nat), .int .u64 (cc : Nat), .string x4, .string x5, .string x6, .string x7, .string x8, .string x9, .string x10, .string x11, .string x12] 25)) 84 #[.int .u32 0, .string ⟨#[]⟩, .int .u64 0, .string ⟨#[]⟩, .string ⟨#[]⟩, .string ⟨#[]⟩])
  rw [World.size_alloc] at HR
  have HO := hide (((Only.refl [] w).alloc (.cells #[.int .i64 k, .int .u32 (sn : Nat), .int .u32 (r : Nat), .int .u64 (cc : Nat), .string x4, .string x5, .string x6, .string x7, .string x8, .string x9, .string x10, .string x11, .string x12] 25)).alloc (.cells #[.int .u32 0, .string ⟨#[]⟩, .int .u64 0, .string ⟨#[]⟩, .string ⟨#[]⟩, .string ⟨#[]⟩] 84))
  rw [hb] at KT
  rw [hr] at HTM
  simp only [if_true] at HTM
  obtain ⟨tl, htl⟩ : ∃ l, textsM (Mg.mk k sn r cc x4 x5 x6 x7 x8 x9 x10 x11 x12) = l := ⟨_, rfl⟩
  rw [htl] at HTM HTX
  have hn0 := HTX.out hr
  obtain ⟨n2, hn2⟩ : ∃ n, n = tl.length := ⟨_, rfl⟩
  have HN2 := hide hn2.symm
  have hnp : (0 : Int) < n2 := by omega
  have hnq : ((n2 : Int) == 0) = false := by rw [beq_eq_false_iff_ne]; omega
  clear htl hn0 hn2 HTX
  have hkb : (k != 1) = true := by rw [bne_iff_ne]; exact hk
  clear hb hr hk KP
  clear hsc hF
  go_enter Tryz.func41, Tryz.ntmps41
  go_upto_region 1 with fail
  generalize ((w.alloc (.cells #[.int .i64 k, .int .u32 (sn : Nat), .int .u32 (r : Nat), .int .u64 (cc : Nat), .string x4, .string x5, .string x6, .string x7, .string x8, .string x9, .string x10, .string x11, .string x12] 25)).alloc (.cells #[.int .u32 0, .string ⟨#[]⟩, .int .u64 0, .string ⟨#[]⟩, .string ⟨#[]⟩, .string ⟨#[]⟩] 84)) = v0 at *
  obtain ⟨m0, m1, m2, m3, m4, m5, m6, m7, m8, m9, m10, m11, m12⟩ := cells13 HMB.out; obtain ⟨r0, r1, r2, r3, r4, r5⟩ := cells6 HR.out; have rf := HR.out.frozen
  go_wp2_with (first
    | (go_at_call 88; refine (KT.out _ _ rfl).mono ?_; rintro e wt ⟨rfl, ho⟩; replace HMB := hon HMB ho; replace HR := hon HR ho; replace HO := htr HO ho; clear ho; (first | (clear m0 m1 m2 m3 m4 m5 m6 m7 m8 m9 m10 m11 m12; clear r0 r1 r2 r3 r4 r5 rf) | skip); obtain ⟨m0, m1, m2, m3, m4, m5, m6, m7, m8, m9, m10, m11, m12⟩ := cells13 HMB.out; obtain ⟨r0, r1, r2, r3, r4, r5⟩ := cells6 HR.out; have rf := HR.out.frozen)
    | (go_at_call 56; refine (HTM.out _).mono ?_; rintro e wq ⟨ho, v, rfl, hrd⟩; obtain ⟨A2, cp, hv, hcc, hmm⟩ := hrd.form; replace hv : v = .slice A2 n2 cp := (by rw [hv, show (strc tl).length = tl.length by simp [strc], HN2.out]); subst hv; clear hrd hcc hmm; replace HMB := hon HMB ho; replace HR := hon HR ho; replace HO := htr HO ho; clear ho; (first | (clear m0 m1 m2 m3 m4 m5 m6 m7 m8 m9 m10 m11 m12; clear r0 r1 r2 r3 r4 r5 rf) | skip); obtain ⟨m0, m1, m2, m3, m4, m5, m6, m7, m8, m9, m10, m11, m12⟩ := cells13 HMB.out; obtain ⟨r0, r1, r2, r3, r4, r5⟩ := cells6 HR.out; have rf := HR.out.frozen))
  refine bodyPost_ret (results_cell_two rfl _ _ (w.heap.size + 1) 84 _ (0, 0) _ rfl (set6 HR.out (.int .u32 0) (.string ⟨#[]⟩) (.int .u64 0) (.string ⟨#[]⟩) (.string ⟨#[]⟩) (.string ⟨#[]⟩)) Tryz.underlying84 rfl (by kernel_rfl)) rfl ?_
  exact ⟨rfl, only6 HO.out (.inr (by omega)) (.int .u32 0) (.string ⟨#[]⟩) (.int .u64 0) (.string ⟨#[]⟩) (.string ⟨#[]⟩) (.string ⟨#[]⟩)⟩
set_option maxRecDepth 100000 in
set_option maxHeartbeats 12800000 in
theorem Hear_f4 (w : World) (sc : ByteArray) (k : Int) (sn r cc : Nat) (x4 x5 x6 x7 x8 x9 x10 x11 x12 : ByteArray) (hsc : sc.size ≤ maxLen) (hF : (Mg.mk k sn r cc x4 x5 x6 x7 x8 x9 x10 x11 x12).Fine) (hb : termsB [sc] = true) (hr : rightM (Mg.mk k sn r cc x4 x5 x6 x7 x8 x9 x10 x11 x12) = true) (hk : k = 1) (hpb : pubsB [x4] = false) : Calls Tryz.prog 41 #[.string sc, .agg #[.int .i64 k, .int .u32 (sn : Nat), .int .u32 (r : Nat), .int .u64 (cc : Nat), .string x4, .string x5, .string x6, .string x7, .string x8, .string x9, .string x10, .string x11, .string x12]] w (HeaPost 3 #[.int .u32 0, .string ⟨#[]⟩, .int .u64 0, .string ⟨#[]⟩, .string ⟨#[]⟩, .string ⟨#[]⟩] w) := by
  have KT := hide (fun W G hG => terms_new1 W G hG sc hsc)
  have KP := hide (fun W G hG => pubs_new1 W G hG x4 hF.x4)
  have HTM := hide (fun W => Terms_any W (Mg.mk k sn r cc x4 x5 x6 x7 x8 x9 x10 x11 x12) hF)
  have HTX := hide (fun (h : rightM (Mg.mk k sn r cc x4 x5 x6 x7 x8 x9 x10 x11 x12) = true) => texts_pos h)
  unfold RetB at KT KP
  unfold TermsPost at HTM
  have HMB := hide ((Blk.new w 25 #[.int .i64 k, .int .u32 (sn : Nat), .int .u32 (r : Nat), .int .u64 (cc : Nat), .string x4, .string x5, .string x6, .string x7, .string x8, .string x9, .string x10, .string x11, .string x12]).alloc (.cells #[.int .u32 0, .string ⟨#[]⟩, .int .u64 0, .string ⟨#[]⟩, .string ⟨#[]⟩, .string ⟨#[]⟩] 84))
  have HR := hide (Blk.new (w.alloc (.cells #[.int .i64 k, .int .u32 (sn : Nat), .int .u32 (r : Nat), .int .u64 (cc : Nat), .string x4, .string x5, .string x6, .string x7, .string x8, .string x9, .string x10, .string x11, .string x12] 25)) 84 #[.int .u32 0, .string ⟨#[]⟩, .int .u64 0, .string ⟨#[]⟩, .string ⟨#[]⟩, .string ⟨#[]⟩])
  rw [World.size_alloc] at HR
  have HO := hide (((Only.refl [] w).alloc (.cells #[.int .i64 k, .int .u32 (sn : Nat), .int .u32 (r : Nat), .int .u64 (cc : Nat), .string x4, .string x5, .string x6, .string x7, .string x8, .string x9, .string x10, .string x11, .string x12] 25)).alloc (.cells #[.int .u32 0, .string ⟨#[]⟩, .int .u64 0, .string ⟨#[]⟩, .string ⟨#[]⟩, .string ⟨#[]⟩] 84))
  rw [hb] at KT
  rw [hpb] at KP
  rw [hr] at HTM
  simp only [if_true] at HTM
  obtain ⟨tl, htl⟩ : ∃ l, textsM (Mg.mk k sn r cc x4 x5 x6 x7 x8 x9 x10 x11 x12) = l := ⟨_, rfl⟩
  rw [htl] at HTM HTX
  have hn0 := HTX.out hr
  obtain ⟨n2, hn2⟩ : ∃ n, n = tl.length := ⟨_, rfl⟩
  have HN2 := hide hn2.symm
  have hnp : (0 : Int) < n2 := by omega
  have hnq : ((n2 : Int) == 0) = false := by rw [beq_eq_false_iff_ne]; omega
  clear htl hn0 hn2 HTX
  have hkb : (k != 1) = false := by rw [bne_eq_false_iff_eq]; exact hk
  clear hb hr hk hpb
  clear hsc hF
  go_enter Tryz.func41, Tryz.ntmps41
  go_upto_region 1 with fail
  generalize ((w.alloc (.cells #[.int .i64 k, .int .u32 (sn : Nat), .int .u32 (r : Nat), .int .u64 (cc : Nat), .string x4, .string x5, .string x6, .string x7, .string x8, .string x9, .string x10, .string x11, .string x12] 25)).alloc (.cells #[.int .u32 0, .string ⟨#[]⟩, .int .u64 0, .string ⟨#[]⟩, .string ⟨#[]⟩, .string ⟨#[]⟩] 84)) = v0 at *
  obtain ⟨m0, m1, m2, m3, m4, m5, m6, m7, m8, m9, m10, m11, m12⟩ := cells13 HMB.out; obtain ⟨r0, r1, r2, r3, r4, r5⟩ := cells6 HR.out; have rf := HR.out.frozen
  go_wp2_with (first
    | (go_at_call 88; refine (KT.out _ _ rfl).mono ?_; rintro e wt ⟨rfl, ho⟩; replace HMB := hon HMB ho; replace HR := hon HR ho; replace HO := htr HO ho; clear ho; (first | (clear m0 m1 m2 m3 m4 m5 m6 m7 m8 m9 m10 m11 m12; clear r0 r1 r2 r3 r4 r5 rf) | skip); obtain ⟨m0, m1, m2, m3, m4, m5, m6, m7, m8, m9, m10, m11, m12⟩ := cells13 HMB.out; obtain ⟨r0, r1, r2, r3, r4, r5⟩ := cells6 HR.out; have rf := HR.out.frozen)
    | (go_at_call 56; refine (HTM.out _).mono ?_; rintro e wq ⟨ho, v, rfl, hrd⟩; obtain ⟨A2, cp, hv, hcc, hmm⟩ := hrd.form; replace hv : v = .slice A2 n2 cp := (by rw [hv, show (strc tl).length = tl.length by simp [strc], HN2.out]); subst hv; clear hrd hcc hmm; replace HMB := hon HMB ho; replace HR := hon HR ho; replace HO := htr HO ho; clear ho; (first | (clear m0 m1 m2 m3 m4 m5 m6 m7 m8 m9 m10 m11 m12; clear r0 r1 r2 r3 r4 r5 rf) | skip); obtain ⟨m0, m1, m2, m3, m4, m5, m6, m7, m8, m9, m10, m11, m12⟩ := cells13 HMB.out; obtain ⟨r0, r1, r2, r3, r4, r5⟩ := cells6 HR.out; have rf := HR.out.frozen)
    | (go_at_call 89; refine (KP.out _ _ rfl).mono ?_; rintro e wp ⟨rfl, ho⟩; replace HMB := hon HMB ho; replace HR := hon HR ho; replace HO := htr HO ho; clear ho; (first | (clear m0 m1 m2 m3 m4 m5 m6 m7 m8 m9 m10 m11 m12; clear r0 r1 r2 r3 r4 r5 rf) | skip); obtain ⟨m0, m1, m2, m3, m4, m5, m6, m7, m8, m9, m10, m11, m12⟩ := cells13 HMB.out; obtain ⟨r0, r1, r2, r3, r4, r5⟩ := cells6 HR.out; have rf := HR.out.frozen))
  refine bodyPost_ret (results_cell_two rfl _ _ (w.heap.size + 1) 84 _ (0, 0) _ rfl (set6 HR.out (.int .u32 0) (.string ⟨#[]⟩) (.int .u64 0) (.string ⟨#[]⟩) (.string ⟨#[]⟩) (.string ⟨#[]⟩)) Tryz.underlying84 rfl (by kernel_rfl)) rfl ?_
  exact ⟨rfl, only6 HO.out (.inr (by omega)) (.int .u32 0) (.string ⟨#[]⟩) (.int .u64 0) (.string ⟨#[]⟩) (.string ⟨#[]⟩) (.string ⟨#[]⟩)⟩
end
end Go.Proofs.YtfipdjlalfpbnaaGreatDoor

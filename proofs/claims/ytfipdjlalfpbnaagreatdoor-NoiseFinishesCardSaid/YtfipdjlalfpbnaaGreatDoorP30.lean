/-
  Walks and plain words (texts No9). No condition beyond those that each theorem states.
-/
import Derived.Test.YtfipdjlalfpbnaaGreatDoorP25
import Derived.Test.YtfipdjlalfpbnaaGreatDoorP27
import Derived.Test.YtfipdjlalfpbnaaGreatDoorP29
namespace Go.Proofs.YtfipdjlalfpbnaaGreatDoor
section
open Go.RowKit Go.Deep

theorem set2 {w : World} {R : Nat} {t : TypeId} {a0 a1 : Value} (h : Blk w R t #[a0, a1]) (v0 v1 : Value) : Blk ((w.setCell ⟨R, 0, none⟩ v0).setCell ⟨R, 1, none⟩ v1) R t #[v0, v1] := by
  have h2 := ((h.set_ 0 v0).set_ 1 v1)
  simp only [List.setIfInBounds_toArray, List.set_cons_zero, List.set_cons_succ] at h2
  exact h2
theorem only2 {S : List Nat} {a w : World} {R : Nat} (h : Only S a w) (hR : R ∈ S ∨ a.heap.size ≤ R) (v0 v1 : Value) : Only S a ((w.setCell ⟨R, 0, none⟩ v0).setCell ⟨R, 1, none⟩ v1) :=
  ((h.setCell (p := ⟨R, 0, none⟩) hR v0).setCell (p := ⟨R, 1, none⟩) hR v1)
def FinPost (k : Int) (a b : ByteArray) (w : World) (e : Ending) (w' : World) : Prop := e = .returned (.tuple #[.agg #[.string a, .string b], .int .i64 k]) ∧ Only [] w w'
set_option maxRecDepth 100000 in
set_option maxHeartbeats 12800000 in
theorem Finish_f1 (w : World) (ep c h s q : ByteArray) (sd : Nat) (k : Int) (sn r cc : Nat) (x4 x5 x6 x7 x8 x9 x10 x11 x12 : ByteArray) (hep : ep.size ≤ maxLen) (hc : c.size ≤ maxLen) (hh : h.size ≤ maxLen) (hs : s.size ≤ maxLen) (hq : q.size ≤ maxLen) (hF : (Mg.mk k sn r cc x4 x5 x6 x7 x8 x9 x10 x11 x12).Fine) (hb : termsB [s, q, ep, c, h] = false) : Calls Tryz.prog 48 #[.agg #[.int .u32 (sd : Nat), .string ep, .string c, .string h], .string s, .string q, .agg #[.int .i64 k, .int .u32 (sn : Nat), .int .u32 (r : Nat), .int .u64 (cc : Nat), .string x4, .string x5, .string x6, .string x7, .string x8, .string x9, .string x10, .string x11, .string x12]] w (FinPost 3 ByteArray.empty ByteArray.empty w) := by
  have KT := hide (fun W G hG => terms_new5 W G hG s q ep c h hs hq hep hc hh)
  have KP := hide (fun W G hG => pubs_new1 W G hG x4 hF.x4)
  have HTM := hide (fun W => Terms_any W (Mg.mk k sn r cc x4 x5 x6 x7 x8 x9 x10 x11 x12) hF)
  have HTX := hide (fun (h : rightM (Mg.mk k sn r cc x4 x5 x6 x7 x8 x9 x10 x11 x12) = true) => texts_pos h)
  unfold RetB at KT KP
  unfold TermsPost at HTM
  have HSB := hide (((Blk.new w 72 #[.int .u32 (sd : Nat), .string ep, .string c, .string h]).alloc (.cells #[.int .i64 k, .int .u32 (sn : Nat), .int .u32 (r : Nat), .int .u64 (cc : Nat), .string x4, .string x5, .string x6, .string x7, .string x8, .string x9, .string x10, .string x11, .string x12] 25)).alloc (.cells #[.string ⟨#[]⟩, .string ⟨#[]⟩] 43))
  have HMB := hide ((Blk.new (w.alloc (.cells #[.int .u32 (sd : Nat), .string ep, .string c, .string h] 72)) 25 #[.int .i64 k, .int .u32 (sn : Nat), .int .u32 (r : Nat), .int .u64 (cc : Nat), .string x4, .string x5, .string x6, .string x7, .string x8, .string x9, .string x10, .string x11, .string x12]).alloc (.cells #[.string ⟨#[]⟩, .string ⟨#[]⟩] 43))
  have HR := hide (Blk.new ((w.alloc (.cells #[.int .u32 (sd : Nat), .string ep, .string c, .string h] 72)).alloc (.cells #[.int .i64 k, .int .u32 (sn : Nat), .int .u32 (r : Nat), .int .u64 (cc : Nat), .string x4, .string x5, .string x6, .string x7, .string x8, .string x9, .string x10, .string x11, .string x12] 25)) 43 #[.string ⟨#[]⟩, .string ⟨#[]⟩])
  rw [World.size_alloc] at HMB
  rw [World.size_alloc, World.size_alloc] at HR
  have HO := hide ((((Only.refl [] w).alloc (.cells #[.int .u32 (sd : Nat), .string ep, .string c, .string h] 72)).alloc (.cells #[.int .i64 k, .int .u32 (sn : Nat), .int .u32 (r : Nat), .int .u64 (cc : Nat), .string x4, .string x5, .string x6, .string x7, .string x8, .string x9, .string x10, .string x11, .string x12] 25)).alloc (.cells #[.string ⟨#[]⟩, .string ⟨#[]⟩] 43))
  rw [hb] at KT
  clear hb HTM HTX KP
  clear hep hc hh hs hq hF
  go_enter Tryz.func48, Tryz.ntmps48
  go_upto_region 1 with fail
  generalize (((w.alloc (.cells #[.int .u32 (sd : Nat), .string ep, .string c, .string h] 72)).alloc (.cells #[.int .i64 k, .int .u32 (sn : Nat), .int .u32 (r : Nat), .int .u64 (cc : Nat), .string x4, .string x5, .string x6, .string x7, .string x8, .string x9, .string x10, .string x11, .string x12] 25)).alloc (.cells #[.string ⟨#[]⟩, .string ⟨#[]⟩] 43)) = v0 at *
  obtain ⟨m0, m1, m2, m3, m4, m5, m6, m7, m8, m9, m10, m11, m12⟩ := cells13 HMB.out; obtain ⟨s0, s1, s2, s3⟩ := cells4 HSB.out; obtain ⟨r0, r1⟩ := cells2 HR.out; have rf := HR.out.frozen
  go_wp2_with (first
    | (go_at_call 88; refine (KT.out _ _ rfl).mono ?_; rintro e wt ⟨rfl, ho⟩; replace HSB := hon HSB ho; replace HMB := hon HMB ho; replace HR := hon HR ho; replace HO := htr HO ho; clear ho; (first | (clear m0 m1 m2 m3 m4 m5 m6 m7 m8 m9 m10 m11 m12 s0 s1 s2 s3 r0 r1 rf) | skip); obtain ⟨m0, m1, m2, m3, m4, m5, m6, m7, m8, m9, m10, m11, m12⟩ := cells13 HMB.out; obtain ⟨s0, s1, s2, s3⟩ := cells4 HSB.out; obtain ⟨r0, r1⟩ := cells2 HR.out; have rf := HR.out.frozen))
  refine bodyPost_ret (results_cell_two rfl _ _ (w.heap.size + 2) 43 _ (0, 0) _ rfl (set2 HR.out (.string ⟨#[]⟩) (.string ⟨#[]⟩)) Tryz.underlying43 rfl (by kernel_rfl)) rfl ?_
  exact ⟨rfl, only2 HO.out (.inr (by omega)) (.string ⟨#[]⟩) (.string ⟨#[]⟩)⟩
set_option maxRecDepth 100000 in
set_option maxHeartbeats 12800000 in
theorem Finish_f2 (w : World) (ep c h s q : ByteArray) (sd : Nat) (k : Int) (sn r cc : Nat) (x4 x5 x6 x7 x8 x9 x10 x11 x12 : ByteArray) (hep : ep.size ≤ maxLen) (hc : c.size ≤ maxLen) (hh : h.size ≤ maxLen) (hs : s.size ≤ maxLen) (hq : q.size ≤ maxLen) (hF : (Mg.mk k sn r cc x4 x5 x6 x7 x8 x9 x10 x11 x12).Fine) (hb : termsB [s, q, ep, c, h] = true) (hr : rightM (Mg.mk k sn r cc x4 x5 x6 x7 x8 x9 x10 x11 x12) = false) : Calls Tryz.prog 48 #[.agg #[.int .u32 (sd : Nat), .string ep, .string c, .string h], .string s, .string q, .agg #[.int .i64 k, .int .u32 (sn : Nat), .int .u32 (r : Nat), .int .u64 (cc : Nat), .string x4, .string x5, .string x6, .string x7, .string x8, .string x9, .string x10, .string x11, .string x12]] w (FinPost 3 ByteArray.empty ByteArray.empty w) := by
  have KT := hide (fun W G hG => terms_new5 W G hG s q ep c h hs hq hep hc hh)
  have KP := hide (fun W G hG => pubs_new1 W G hG x4 hF.x4)
  have HTM := hide (fun W => Terms_any W (Mg.mk k sn r cc x4 x5 x6 x7 x8 x9 x10 x11 x12) hF)
  have HTX := hide (fun (h : rightM (Mg.mk k sn r cc x4 x5 x6 x7 x8 x9 x10 x11 x12) = true) => texts_pos h)
  unfold RetB at KT KP
  unfold TermsPost at HTM
  have HSB := hide (((Blk.new w 72 #[.int .u32 (sd : Nat), .string ep, .string c, .string h]).alloc (.cells #[.int .i64 k, .int .u32 (sn : Nat), .int .u32 (r : Nat), .int .u64 (cc : Nat), .string x4, .string x5, .string x6, .string x7, .string x8, .string x9, .string x10, .string x11, .string x12] 25)).alloc (.cells #[.string ⟨#[]⟩, .string ⟨#[]⟩] 43))
  have HMB := hide ((Blk.new (w.alloc (.cells #[.int .u32 (sd : Nat), .string ep, .string c, .string h] 72)) 25 #[.int .i64 k, .int .u32 (sn : Nat), .int .u32 (r : Nat), .int .u64 (cc : Nat), .string x4, .string x5, .string x6, .string x7, .string x8, .string x9, .string x10, .string x11, .string x12]).alloc (.cells #[.string ⟨#[]⟩, .string ⟨#[]⟩] 43))
  have HR := hide (Blk.new ((w.alloc (.cells #[.int .u32 (sd : Nat), .string ep, .string c, .string h] 72)).alloc (.cells #[.int .i64 k, .int .u32 (sn : Nat), .int .u32 (r : Nat), .int .u64 (cc : Nat), .string x4, .string x5, .string x6, .string x7, .string x8, .string x9, .string x10, .string x11, .string x12] 25)) 43 #[.string ⟨#[]⟩, .string ⟨#[]⟩])
  rw [World.size_alloc] at HMB
  rw [World.size_alloc, World.size_alloc] at HR
  have HO := hide ((((Only.refl [] w).alloc (.cells #[.int .u32 (sd : Nat), .string ep, .string c, .string h] 72)).alloc (.cells #[.int .i64 k, .int .u32 (sn : Nat), .int .u32 (r : Nat), .int .u64 (cc : Nat), .string x4, .string x5, .string x6, .string x7, .string x8, .string x9, .string x10, .string x11, .string x12] 25)).alloc (.cells #[.string ⟨#[]⟩, .string ⟨#[]⟩] 43))
  rw [hb] at KT
  rw [hr] at HTM
  simp only [Bool.false_eq_true, if_false] at HTM
  clear hb hr HTX KP
  clear hep hc hh hs hq hF
  go_enter Tryz.func48, Tryz.ntmps48
  go_upto_region 1 with fail
  generalize (((w.alloc (.cells #[.int .u32 (sd : Nat), .string ep, .string c, .string h] 72)).alloc (.cells #[.int .i64 k, .int .u32 (sn : Nat), .int .u32 (r : Nat), .int .u64 (cc : Nat), .string x4, .string x5, .string x6, .string x7, .string x8, .string x9, .string x10, .string x11, .string x12] 25)).alloc (.cells #[.string ⟨#[]⟩, .string ⟨#[]⟩] 43)) = v0 at *
  obtain ⟨m0, m1, m2, m3, m4, m5, m6, m7, m8, m9, m10, m11, m12⟩ := cells13 HMB.out; obtain ⟨s0, s1, s2, s3⟩ := cells4 HSB.out; obtain ⟨r0, r1⟩ := cells2 HR.out; have rf := HR.out.frozen
  go_wp2_with (first
    | (go_at_call 88; refine (KT.out _ _ rfl).mono ?_; rintro e wt ⟨rfl, ho⟩; replace HSB := hon HSB ho; replace HMB := hon HMB ho; replace HR := hon HR ho; replace HO := htr HO ho; clear ho; (first | (clear m0 m1 m2 m3 m4 m5 m6 m7 m8 m9 m10 m11 m12 s0 s1 s2 s3 r0 r1 rf) | skip); obtain ⟨m0, m1, m2, m3, m4, m5, m6, m7, m8, m9, m10, m11, m12⟩ := cells13 HMB.out; obtain ⟨s0, s1, s2, s3⟩ := cells4 HSB.out; obtain ⟨r0, r1⟩ := cells2 HR.out; have rf := HR.out.frozen)
    | (go_at_call 56; refine (HTM.out _).mono ?_; rintro e wq ⟨ho, rfl⟩; replace HSB := hon HSB ho; replace HMB := hon HMB ho; replace HR := hon HR ho; replace HO := htr HO ho; clear ho; (first | (clear m0 m1 m2 m3 m4 m5 m6 m7 m8 m9 m10 m11 m12 s0 s1 s2 s3 r0 r1 rf) | skip); obtain ⟨m0, m1, m2, m3, m4, m5, m6, m7, m8, m9, m10, m11, m12⟩ := cells13 HMB.out; obtain ⟨s0, s1, s2, s3⟩ := cells4 HSB.out; obtain ⟨r0, r1⟩ := cells2 HR.out; have rf := HR.out.frozen))
  refine bodyPost_ret (results_cell_two rfl _ _ (w.heap.size + 2) 43 _ (0, 0) _ rfl (set2 HR.out (.string ⟨#[]⟩) (.string ⟨#[]⟩)) Tryz.underlying43 rfl (by kernel_rfl)) rfl ?_
  exact ⟨rfl, only2 HO.out (.inr (by omega)) (.string ⟨#[]⟩) (.string ⟨#[]⟩)⟩
set_option maxRecDepth 100000 in
set_option maxHeartbeats 12800000 in
theorem Finish_f3 (w : World) (ep c h s q : ByteArray) (sd : Nat) (k : Int) (sn r cc : Nat) (x4 x5 x6 x7 x8 x9 x10 x11 x12 : ByteArray) (hep : ep.size ≤ maxLen) (hc : c.size ≤ maxLen) (hh : h.size ≤ maxLen) (hs : s.size ≤ maxLen) (hq : q.size ≤ maxLen) (hF : (Mg.mk k sn r cc x4 x5 x6 x7 x8 x9 x10 x11 x12).Fine) (hb : termsB [s, q, ep, c, h] = true) (hr : rightM (Mg.mk k sn r cc x4 x5 x6 x7 x8 x9 x10 x11 x12) = true) (hk : k ≠ 2) : Calls Tryz.prog 48 #[.agg #[.int .u32 (sd : Nat), .string ep, .string c, .string h], .string s, .string q, .agg #[.int .i64 k, .int .u32 (sn : Nat), .int .u32 (r : Nat), .int .u64 (cc : Nat), .string x4, .string x5, .string x6, .string x7, .string x8, .string x9, .string x10, .string x11, .string x12]] w (FinPost 3 ByteArray.empty ByteArray.empty w) := by
  have KT := hide (fun W G hG => terms_new5 W G hG s q ep c h hs hq hep hc hh)
  have KP := hide (fun W G hG => pubs_new1 W G hG x4 hF.x4)
  have HTM := hide (fun W => Terms_any W (Mg.mk k sn r cc x4 x5 x6 x7 x8 x9 x10 x11 x12) hF)
  have HTX := hide (fun (h : rightM (Mg.mk k sn r cc x4 x5 x6 x7 x8 x9 x10 x11 x12) = true) => texts_pos h)
  unfold RetB at KT KP
  unfold TermsPost at HTM
  have HSB := hide (((Blk.new w 72 #[.int .u32 (sd : Nat), .string ep, .string c, .string h]).alloc (.cells #[.int .i64 k, .int .u32 (sn : Nat), .int .u32 (r : Nat), .int .u64 (cc : Nat), .string x4, .string x5, .string x6, .string x7, .string x8, .string x9, .string x10, .string x11, .string x12] 25)).alloc (.cells #[.string ⟨#[]⟩, .string ⟨#[]⟩] 43))
  have HMB := hide ((Blk.new (w.alloc (.cells #[.int .u32 (sd : Nat), .string ep, .string c, .string h] 72)) 25 #[.int .i64 k, .int .u32 (sn : Nat), .int .u32 (r : Nat), .int .u64 (cc : Nat), .string x4, .string x5, .string x6, .string x7, .string x8, .string x9, .string x10, .string x11, .string x12]).alloc (.cells #[.string ⟨#[]⟩, .string ⟨#[]⟩] 43))
  have HR := hide (Blk.new ((w.alloc (.cells #[.int .u32 (sd : Nat), .string ep, .string c, .string h] 72)).alloc (.cells #[.int .i64 k, .int .u32 (sn : Nat), .int .u32 (r : Nat), .int .u64 (cc : Nat), .string x4, .string x5, .string x6, .string x7, .string x8, .string x9, .string x10, .string x11, .string x12] 25)) 43 #[.string ⟨#[]⟩, .string ⟨#[]⟩])
  rw [World.size_alloc] at HMB
  rw [World.size_alloc, World.size_alloc] at HR
  have HO := hide ((((Only.refl [] w).alloc (.cells #[.int .u32 (sd : Nat), .string ep, .string c, .string h] 72)).alloc (.cells #[.int .i64 k, .int .u32 (sn : Nat), .int .u32 (r : Nat), .int .u64 (cc : Nat), .string x4, .string x5, .string x6, .string x7, .string x8, .string x9, .string x10, .string x11, .string x12] 25)).alloc (.cells #[.string ⟨#[]⟩, .string ⟨#[]⟩] 43))
  rw [hb] at KT
  rw [hr] at HTM
  simp only [if_true] at HTM
  obtain ⟨tl, htl⟩ : ∃ l, textsM (Mg.mk k sn r cc x4 x5 x6 x7 x8 x9 x10 x11 x12) = l := ⟨_, rfl⟩
  rw [htl] at HTM HTX
  have hn0 := HTX.out hr
  obtain ⟨n2, hn2⟩ : ∃ n, n = tl.length := ⟨_, rfl⟩
  have HN2 := hide hn2.symm
  have hnp : (0 : Int) < n2 := by omega
  have hnq : ((n2 : Int) == 0) = false := by rw [beq_eq_false_iff_ne]; omega
  clear htl hn0 hn2 HTX
  have hkb : (k != 2) = true := by rw [bne_iff_ne]; exact hk
  clear hb hr hk KP
  clear hep hc hh hs hq hF
  go_enter Tryz.func48, Tryz.ntmps48
  go_upto_region 1 with fail
  generalize (((w.alloc (.cells #[.int .u32 (sd : Nat), .string ep, .string c, .string h] 72)).alloc (.cells #[.int .i64 k, .int .u32 (sn : Nat), .int .u32 (r : Nat), .int .u64 (cc : Nat), .string x4, .string x5, .string x6, .string x7, .string x8, .string x9, .string x10, .string x11, .string x12] 25)).alloc (.cells #[.string ⟨#[]⟩, .string ⟨#[]⟩] 43)) = v0 at *
  obtain ⟨m0, m1, m2, m3, m4, m5, m6, m7, m8, m9, m10, m11, m12⟩ := cells13 HMB.out; obtain ⟨s0, s1, s2, s3⟩ := cells4 HSB.out; obtain ⟨r0, r1⟩ := cells2 HR.out; have rf := HR.out.frozen
  go_wp2_with (first
    | (go_at_call 88; refine (KT.out _ _ rfl).mono ?_; rintro e wt ⟨rfl, ho⟩; replace HSB := hon HSB ho; replace HMB := hon HMB ho; replace HR := hon HR ho; replace HO := htr HO ho; clear ho; (first | (clear m0 m1 m2 m3 m4 m5 m6 m7 m8 m9 m10 m11 m12 s0 s1 s2 s3 r0 r1 rf) | skip); obtain ⟨m0, m1, m2, m3, m4, m5, m6, m7, m8, m9, m10, m11, m12⟩ := cells13 HMB.out; obtain ⟨s0, s1, s2, s3⟩ := cells4 HSB.out; obtain ⟨r0, r1⟩ := cells2 HR.out; have rf := HR.out.frozen)
    | (go_at_call 56; refine (HTM.out _).mono ?_; rintro e wq ⟨ho, v, rfl, hrd⟩; obtain ⟨A2, cp, hv, hcc, hmm⟩ := hrd.form; replace hv : v = .slice A2 n2 cp := (by rw [hv, show (strc tl).length = tl.length by simp [strc], HN2.out]); subst hv; clear hrd hcc hmm; replace HSB := hon HSB ho; replace HMB := hon HMB ho; replace HR := hon HR ho; replace HO := htr HO ho; clear ho; (first | (clear m0 m1 m2 m3 m4 m5 m6 m7 m8 m9 m10 m11 m12 s0 s1 s2 s3 r0 r1 rf) | skip); obtain ⟨m0, m1, m2, m3, m4, m5, m6, m7, m8, m9, m10, m11, m12⟩ := cells13 HMB.out; obtain ⟨s0, s1, s2, s3⟩ := cells4 HSB.out; obtain ⟨r0, r1⟩ := cells2 HR.out; have rf := HR.out.frozen))
  refine bodyPost_ret (results_cell_two rfl _ _ (w.heap.size + 2) 43 _ (0, 0) _ rfl (set2 HR.out (.string ⟨#[]⟩) (.string ⟨#[]⟩)) Tryz.underlying43 rfl (by kernel_rfl)) rfl ?_
  exact ⟨rfl, only2 HO.out (.inr (by omega)) (.string ⟨#[]⟩) (.string ⟨#[]⟩)⟩
set_option maxRecDepth 100000 in
set_option maxHeartbeats 12800000 in
theorem Finish_f4 (w : World) (ep c h s q : ByteArray) (sd : Nat) (k : Int) (sn r cc : Nat) (x4 x5 x6 x7 x8 x9 x10 x11 x12 : ByteArray) (hep : ep.size ≤ maxLen) (hc : c.size ≤ maxLen) (hh : h.size ≤ maxLen) (hs : s.size ≤ maxLen) (hq : q.size ≤ maxLen) (hF : (Mg.mk k sn r cc x4 x5 x6 x7 x8 x9 x10 x11 x12).Fine) (hb : termsB [s, q, ep, c, h] = true) (hr : rightM (Mg.mk k sn r cc x4 x5 x6 x7 x8 x9 x10 x11 x12) = true) (hk : k = 2) (hp : pubsB [x4] = false) : Calls Tryz.prog 48 #[.agg #[.int .u32 (sd : Nat), .string ep, .string c, .string h], .string s, .string q, .agg #[.int .i64 k, .int .u32 (sn : Nat), .int .u32 (r : Nat), .int .u64 (cc : Nat), .string x4, .string x5, .string x6, .string x7, .string x8, .string x9, .string x10, .string x11, .string x12]] w (FinPost 3 ByteArray.empty ByteArray.empty w) := by
  have KT := hide (fun W G hG => terms_new5 W G hG s q ep c h hs hq hep hc hh)
  have KP := hide (fun W G hG => pubs_new1 W G hG x4 hF.x4)
  have HTM := hide (fun W => Terms_any W (Mg.mk k sn r cc x4 x5 x6 x7 x8 x9 x10 x11 x12) hF)
  have HTX := hide (fun (h : rightM (Mg.mk k sn r cc x4 x5 x6 x7 x8 x9 x10 x11 x12) = true) => texts_pos h)
  unfold RetB at KT KP
  unfold TermsPost at HTM
  have HSB := hide (((Blk.new w 72 #[.int .u32 (sd : Nat), .string ep, .string c, .string h]).alloc (.cells #[.int .i64 k, .int .u32 (sn : Nat), .int .u32 (r : Nat), .int .u64 (cc : Nat), .string x4, .string x5, .string x6, .string x7, .string x8, .string x9, .string x10, .string x11, .string x12] 25)).alloc (.cells #[.string ⟨#[]⟩, .string ⟨#[]⟩] 43))
  have HMB := hide ((Blk.new (w.alloc (.cells #[.int .u32 (sd : Nat), .string ep, .string c, .string h] 72)) 25 #[.int .i64 k, .int .u32 (sn : Nat), .int .u32 (r : Nat), .int .u64 (cc : Nat), .string x4, .string x5, .string x6, .string x7, .string x8, .string x9, .string x10, .string x11, .string x12]).alloc (.cells #[.string ⟨#[]⟩, .string ⟨#[]⟩] 43))
  have HR := hide (Blk.new ((w.alloc (.cells #[.int .u32 (sd : Nat), .string ep, .string c, .string h] 72)).alloc (.cells #[.int .i64 k, .int .u32 (sn : Nat), .int .u32 (r : Nat), .int .u64 (cc : Nat), .string x4, .string x5, .string x6, .string x7, .string x8, .string x9, .string x10, .string x11, .string x12] 25)) 43 #[.string ⟨#[]⟩, .string ⟨#[]⟩])
  rw [World.size_alloc] at HMB
  rw [World.size_alloc, World.size_alloc] at HR
  have HO := hide ((((Only.refl [] w).alloc (.cells #[.int .u32 (sd : Nat), .string ep, .string c, .string h] 72)).alloc (.cells #[.int .i64 k, .int .u32 (sn : Nat), .int .u32 (r : Nat), .int .u64 (cc : Nat), .string x4, .string x5, .string x6, .string x7, .string x8, .string x9, .string x10, .string x11, .string x12] 25)).alloc (.cells #[.string ⟨#[]⟩, .string ⟨#[]⟩] 43))
  rw [hb] at KT
  rw [hp] at KP
  rw [hr] at HTM
  simp only [if_true] at HTM
  obtain ⟨tl, htl⟩ : ∃ l, textsM (Mg.mk k sn r cc x4 x5 x6 x7 x8 x9 x10 x11 x12) = l := ⟨_, rfl⟩
  rw [htl] at HTM HTX
  have hn0 := HTX.out hr
  obtain ⟨n2, hn2⟩ : ∃ n, n = tl.length := ⟨_, rfl⟩
  have HN2 := hide hn2.symm
  have hnp : (0 : Int) < n2 := by omega
  have hnq : ((n2 : Int) == 0) = false := by rw [beq_eq_false_iff_ne]; omega
  clear htl hn0 hn2 HTX
  have hkb : (k != 2) = false := by rw [bne_eq_false_iff_eq]; exact hk
  clear hb hr hk hp
  clear hep hc hh hs hq hF
  go_enter Tryz.func48, Tryz.ntmps48
  go_upto_region 1 with fail
  generalize (((w.alloc (.cells #[.int .u32 (sd : Nat), .string ep, .string c, .string h] 72)).alloc (.cells #[.int .i64 k, .int .u32 (sn : Nat), .int .u32 (r : Nat), .int .u64 (cc : Nat), .string x4, .string x5, .string x6, .string x7, .string x8, .string x9, .string x10, .string x11, .string x12] 25)).alloc (.cells #[.string ⟨#[]⟩, .string ⟨#[]⟩] 43)) = v0 at *
  obtain ⟨m0, m1, m2, m3, m4, m5, m6, m7, m8, m9, m10, m11, m12⟩ := cells13 HMB.out; obtain ⟨s0, s1, s2, s3⟩ := cells4 HSB.out; obtain ⟨r0, r1⟩ := cells2 HR.out; have rf := HR.out.frozen
  go_wp2_with (first
    | (go_at_call 88; refine (KT.out _ _ rfl).mono ?_; rintro e wt ⟨rfl, ho⟩; replace HSB := hon HSB ho; replace HMB := hon HMB ho; replace HR := hon HR ho; replace HO := htr HO ho; clear ho; (first | (clear m0 m1 m2 m3 m4 m5 m6 m7 m8 m9 m10 m11 m12 s0 s1 s2 s3 r0 r1 rf) | skip); obtain ⟨m0, m1, m2, m3, m4, m5, m6, m7, m8, m9, m10, m11, m12⟩ := cells13 HMB.out; obtain ⟨s0, s1, s2, s3⟩ := cells4 HSB.out; obtain ⟨r0, r1⟩ := cells2 HR.out; have rf := HR.out.frozen)
    | (go_at_call 56; refine (HTM.out _).mono ?_; rintro e wq ⟨ho, v, rfl, hrd⟩; obtain ⟨A2, cp, hv, hcc, hmm⟩ := hrd.form; replace hv : v = .slice A2 n2 cp := (by rw [hv, show (strc tl).length = tl.length by simp [strc], HN2.out]); subst hv; clear hrd hcc hmm; replace HSB := hon HSB ho; replace HMB := hon HMB ho; replace HR := hon HR ho; replace HO := htr HO ho; clear ho; (first | (clear m0 m1 m2 m3 m4 m5 m6 m7 m8 m9 m10 m11 m12 s0 s1 s2 s3 r0 r1 rf) | skip); obtain ⟨m0, m1, m2, m3, m4, m5, m6, m7, m8, m9, m10, m11, m12⟩ := cells13 HMB.out; obtain ⟨s0, s1, s2, s3⟩ := cells4 HSB.out; obtain ⟨r0, r1⟩ := cells2 HR.out; have rf := HR.out.frozen)
    | (go_at_call 89; refine (KP.out _ _ rfl).mono ?_; rintro e wp ⟨rfl, ho⟩; replace HSB := hon HSB ho; replace HMB := hon HMB ho; replace HR := hon HR ho; replace HO := htr HO ho; clear ho; (first | (clear m0 m1 m2 m3 m4 m5 m6 m7 m8 m9 m10 m11 m12 s0 s1 s2 s3 r0 r1 rf) | skip); obtain ⟨m0, m1, m2, m3, m4, m5, m6, m7, m8, m9, m10, m11, m12⟩ := cells13 HMB.out; obtain ⟨s0, s1, s2, s3⟩ := cells4 HSB.out; obtain ⟨r0, r1⟩ := cells2 HR.out; have rf := HR.out.frozen))
  refine bodyPost_ret (results_cell_two rfl _ _ (w.heap.size + 2) 43 _ (0, 0) _ rfl (set2 HR.out (.string ⟨#[]⟩) (.string ⟨#[]⟩)) Tryz.underlying43 rfl (by kernel_rfl)) rfl ?_
  exact ⟨rfl, only2 HO.out (.inr (by omega)) (.string ⟨#[]⟩) (.string ⟨#[]⟩)⟩
set_option maxRecDepth 100000 in
set_option maxHeartbeats 12800000 in
theorem Finish_none (w : World) (ep c h s q : ByteArray) (sd : Nat) (k : Int) (sn r cc : Nat) (x4 x5 x6 x7 x8 x9 x10 x11 x12 : ByteArray) (hep : ep.size ≤ maxLen) (hc : c.size ≤ maxLen) (hh : h.size ≤ maxLen) (hs : s.size ≤ maxLen) (hq : q.size ≤ maxLen) (hF : (Mg.mk k sn r cc x4 x5 x6 x7 x8 x9 x10 x11 x12).Fine) (hb : termsB [s, q, ep, c, h] = true) (hr : rightM (Mg.mk k sn r cc x4 x5 x6 x7 x8 x9 x10 x11 x12) = true) (hk : k = 2) (hp : pubsB [x4] = true) (hn : r ≠ sd) : Calls Tryz.prog 48 #[.agg #[.int .u32 (sd : Nat), .string ep, .string c, .string h], .string s, .string q, .agg #[.int .i64 k, .int .u32 (sn : Nat), .int .u32 (r : Nat), .int .u64 (cc : Nat), .string x4, .string x5, .string x6, .string x7, .string x8, .string x9, .string x10, .string x11, .string x12]] w (FinPost 6 ByteArray.empty ByteArray.empty w) := by
  have KT := hide (fun W G hG => terms_new5 W G hG s q ep c h hs hq hep hc hh)
  have KP := hide (fun W G hG => pubs_new1 W G hG x4 hF.x4)
  have HTM := hide (fun W => Terms_any W (Mg.mk k sn r cc x4 x5 x6 x7 x8 x9 x10 x11 x12) hF)
  have HTX := hide (fun (h : rightM (Mg.mk k sn r cc x4 x5 x6 x7 x8 x9 x10 x11 x12) = true) => texts_pos h)
  unfold RetB at KT KP
  unfold TermsPost at HTM
  have HSB := hide (((Blk.new w 72 #[.int .u32 (sd : Nat), .string ep, .string c, .string h]).alloc (.cells #[.int .i64 k, .int .u32 (sn : Nat), .int .u32 (r : Nat), .int .u64 (cc : Nat), .string x4, .string x5, .string x6, .string x7, .string x8, .string x9, .string x10, .string x11, .string x12] 25)).alloc (.cells #[.string ⟨#[]⟩, .string ⟨#[]⟩] 43))
  have HMB := hide ((Blk.new (w.alloc (.cells #[.int .u32 (sd : Nat), .string ep, .string c, .string h] 72)) 25 #[.int .i64 k, .int .u32 (sn : Nat), .int .u32 (r : Nat), .int .u64 (cc : Nat), .string x4, .string x5, .string x6, .string x7, .string x8, .string x9, .string x10, .string x11, .string x12]).alloc (.cells #[.string ⟨#[]⟩, .string ⟨#[]⟩] 43))
  have HR := hide (Blk.new ((w.alloc (.cells #[.int .u32 (sd : Nat), .string ep, .string c, .string h] 72)).alloc (.cells #[.int .i64 k, .int .u32 (sn : Nat), .int .u32 (r : Nat), .int .u64 (cc : Nat), .string x4, .string x5, .string x6, .string x7, .string x8, .string x9, .string x10, .string x11, .string x12] 25)) 43 #[.string ⟨#[]⟩, .string ⟨#[]⟩])
  rw [World.size_alloc] at HMB
  rw [World.size_alloc, World.size_alloc] at HR
  have HO := hide ((((Only.refl [] w).alloc (.cells #[.int .u32 (sd : Nat), .string ep, .string c, .string h] 72)).alloc (.cells #[.int .i64 k, .int .u32 (sn : Nat), .int .u32 (r : Nat), .int .u64 (cc : Nat), .string x4, .string x5, .string x6, .string x7, .string x8, .string x9, .string x10, .string x11, .string x12] 25)).alloc (.cells #[.string ⟨#[]⟩, .string ⟨#[]⟩] 43))
  rw [hb] at KT
  rw [hp] at KP
  rw [hr] at HTM
  simp only [if_true] at HTM
  obtain ⟨tl, htl⟩ : ∃ l, textsM (Mg.mk k sn r cc x4 x5 x6 x7 x8 x9 x10 x11 x12) = l := ⟨_, rfl⟩
  rw [htl] at HTM HTX
  have hn0 := HTX.out hr
  obtain ⟨n2, hn2⟩ : ∃ n, n = tl.length := ⟨_, rfl⟩
  have HN2 := hide hn2.symm
  have hnp : (0 : Int) < n2 := by omega
  have hnq : ((n2 : Int) == 0) = false := by rw [beq_eq_false_iff_ne]; omega
  clear htl hn0 hn2 HTX
  have hkb : (k != 2) = false := by rw [bne_eq_false_iff_eq]; exact hk
  have hrb : ((r : Int) != (sd : Int)) = true := by rw [bne_iff_ne]; omega
  clear hb hr hk hp hn
  clear hep hc hh hs hq hF
  go_enter Tryz.func48, Tryz.ntmps48
  go_upto_region 1 with fail
  generalize (((w.alloc (.cells #[.int .u32 (sd : Nat), .string ep, .string c, .string h] 72)).alloc (.cells #[.int .i64 k, .int .u32 (sn : Nat), .int .u32 (r : Nat), .int .u64 (cc : Nat), .string x4, .string x5, .string x6, .string x7, .string x8, .string x9, .string x10, .string x11, .string x12] 25)).alloc (.cells #[.string ⟨#[]⟩, .string ⟨#[]⟩] 43)) = v0 at *
  obtain ⟨m0, m1, m2, m3, m4, m5, m6, m7, m8, m9, m10, m11, m12⟩ := cells13 HMB.out; obtain ⟨s0, s1, s2, s3⟩ := cells4 HSB.out; obtain ⟨r0, r1⟩ := cells2 HR.out; have rf := HR.out.frozen
  go_wp2_with (first
    | (go_at_call 88; refine (KT.out _ _ rfl).mono ?_; rintro e wt ⟨rfl, ho⟩; replace HSB := hon HSB ho; replace HMB := hon HMB ho; replace HR := hon HR ho; replace HO := htr HO ho; clear ho; (first | (clear m0 m1 m2 m3 m4 m5 m6 m7 m8 m9 m10 m11 m12 s0 s1 s2 s3 r0 r1 rf) | skip); obtain ⟨m0, m1, m2, m3, m4, m5, m6, m7, m8, m9, m10, m11, m12⟩ := cells13 HMB.out; obtain ⟨s0, s1, s2, s3⟩ := cells4 HSB.out; obtain ⟨r0, r1⟩ := cells2 HR.out; have rf := HR.out.frozen)
    | (go_at_call 56; refine (HTM.out _).mono ?_; rintro e wq ⟨ho, v, rfl, hrd⟩; obtain ⟨A2, cp, hv, hcc, hmm⟩ := hrd.form; replace hv : v = .slice A2 n2 cp := (by rw [hv, show (strc tl).length = tl.length by simp [strc], HN2.out]); subst hv; clear hrd hcc hmm; replace HSB := hon HSB ho; replace HMB := hon HMB ho; replace HR := hon HR ho; replace HO := htr HO ho; clear ho; (first | (clear m0 m1 m2 m3 m4 m5 m6 m7 m8 m9 m10 m11 m12 s0 s1 s2 s3 r0 r1 rf) | skip); obtain ⟨m0, m1, m2, m3, m4, m5, m6, m7, m8, m9, m10, m11, m12⟩ := cells13 HMB.out; obtain ⟨s0, s1, s2, s3⟩ := cells4 HSB.out; obtain ⟨r0, r1⟩ := cells2 HR.out; have rf := HR.out.frozen)
    | (go_at_call 89; refine (KP.out _ _ rfl).mono ?_; rintro e wp ⟨rfl, ho⟩; replace HSB := hon HSB ho; replace HMB := hon HMB ho; replace HR := hon HR ho; replace HO := htr HO ho; clear ho; (first | (clear m0 m1 m2 m3 m4 m5 m6 m7 m8 m9 m10 m11 m12 s0 s1 s2 s3 r0 r1 rf) | skip); obtain ⟨m0, m1, m2, m3, m4, m5, m6, m7, m8, m9, m10, m11, m12⟩ := cells13 HMB.out; obtain ⟨s0, s1, s2, s3⟩ := cells4 HSB.out; obtain ⟨r0, r1⟩ := cells2 HR.out; have rf := HR.out.frozen))
  refine bodyPost_ret (results_cell_two rfl _ _ (w.heap.size + 2) 43 _ (0, 0) _ rfl (set2 HR.out (.string ⟨#[]⟩) (.string ⟨#[]⟩)) Tryz.underlying43 rfl (by kernel_rfl)) rfl ?_
  exact ⟨rfl, only2 HO.out (.inr (by omega)) (.string ⟨#[]⟩) (.string ⟨#[]⟩)⟩
end
end Go.Proofs.YtfipdjlalfpbnaaGreatDoor

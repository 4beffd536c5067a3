/-
  Walks and plain words (texts Py3). No condition beyond those that each theorem states.
-/
import Derived.Test.YtcokjoidpnfjhaaGreatDoorA23
namespace Go.Proofs.YtcokjoidpnfjhaaGreatDoor
section
open Go.RowKit Go.Deep

/-- What Knock needs of the world around it: a base behind which all lies, the source, the peer. -/
structure Around (w0 w : World) (g s a i m : Nat) (p : Pr) : Prop where
  tab : Tab w0
  new : Only [] w0 w
  pg : w0.heap.size ≤ g
  sg : w0.heap.size ≤ s
  ne : g ≠ s
  src : SrcIs w s a i m
  peer : PeerIs w g p
  ks : ∀ k, p.sk = some k → w0.heap.size ≤ k.g ∧ k.g ≠ s
theorem blk_range {w : World} {g : Nat} {t : TypeId} {l : List Value} (h : Blk w g t l.toArray) : w.rangeAt g 0 l := by
  intro j v hj
  rw [Nat.zero_add, h.cell]
  simpa using hj
def secT (a : Nat) : ByteArray := ⟨(97 :: Lib.decDigits a).toArray⟩
def KnockPost (w : World) (g s a i m : Nat) (p : Pr) (mg : Array Value) (sk : Sk) (e : Ending) (w' : World) : Prop :=
  e = .returned (.tuple #[.agg mg, .int .i64 0]) ∧ (∃ k, w.heap.size ≤ k ∧ PeerIs w' g { p with sk := some { sk with g := k } }) ∧ SrcIs w' s (a + 1) (i + 1) m ∧ Only [g, s] w w'
set_option maxRecDepth 100000 in
set_option maxHeartbeats 12800000 in
theorem knock_first (w0 w : World) (g s a i m t : Nat) (p : Pr) (self ep sA sB cC hC m1 m2 : ByteArray) (hA : Around w0 w g s a i m p) (hs : self.size ≤ maxLen) (hself : kindT self ≠ 0) (ha : a < 4294967295) (hi : i < 4294967295) (hm : m ≤ 2000000000000000) (ht1 : t ≤ 1125899906842624)
    (hsk : p.sk = none) (h64 : wrap64 ((t : Int) - p.cm) = (t : Int) - p.cm)
    (hKB : ∀ W, Tab W → Calls Tryz.prog 58 #[.string self, .string (secT a), .string p.pub, .int .u64 ((max m t : Nat) : Int), .int .u32 (i : Int)] W (BeginPost 0 #[.int .i64 1, .int .u32 (i : Nat), .int .u32 0, .int .u64 0, .string ep, .string sA, .string sB, .string ⟨#[]⟩, .string ⟨#[]⟩, .string ⟨#[]⟩, .string ⟨#[]⟩, .string ⟨#[48]⟩, .string ⟨#[48]⟩] #[.int .u32 (i : Nat), .string (secT a), .string cC, .string hC] W))
    (hKS : ∀ W, Tab W → Calls Tryz.prog 132 #[.agg (Mg.mk 1 i 0 0 ep sA sB ⟨#[]⟩ ⟨#[]⟩ ⟨#[]⟩ ⟨#[]⟩ ⟨#[48]⟩ ⟨#[48]⟩).cells, .string p.pub, .string (byV t p.cm p.ck)] W (SignPost (0, Mg.mk 1 i 0 0 ep sA sB ⟨#[]⟩ ⟨#[]⟩ ⟨#[]⟩ ⟨#[]⟩ m1 m2) W)) :
    Calls Tryz.prog 9 #[.pointer (some ⟨g, 0, none⟩), .int .i64 (t : Int), .string self, .pointer (some ⟨s, 0, none⟩)] w (KnockPost w g s a i (max m t + 1) p #[.int .i64 1, .int .u32 (i : Nat), .int .u32 0, .int .u64 0, .string ep, .string sA, .string sB, .string ⟨#[]⟩, .string ⟨#[]⟩, .string ⟨#[]⟩, .string ⟨#[]⟩, .string m1, .string m2] ⟨0, i, secT a, cC, hC, t, t, m1⟩) := by
  obtain ⟨ht, h0, hpg, hsg, hne, hsr, hpr, hks⟩ := hA
  obtain ⟨pub, shr, eq, rg, sl, sk, ck, cm, sp, sm, ow, ot, wa, wt⟩ := p
  simp only at hsk hKB hKS h64
  subst hsk
  have HP := hide (show Blk w g 110 #[.string pub, .string shr, .int .i64 eq, .pointer (some ⟨rg, 0, none⟩), .pointer (some ⟨sl, 0, none⟩), .pointer none, .string ck, .int .i64 cm, .bool sp, .int .u64 (sm : Nat), .bool ow, .int .i64 ot, .bool wa, .int .i64 wt] from hpr.1)
  clear hpr hks
  have HSL := hide hsr.lt
  have HPL := hide HP.out.lt
  have HZ := hide (Blk.new w 29 #[.int .i64 0, .int .u32 0, .int .u32 0, .int .u64 0, .string ⟨#[]⟩, .string ⟨#[]⟩, .string ⟨#[]⟩, .string ⟨#[]⟩, .string ⟨#[]⟩, .string ⟨#[]⟩, .string ⟨#[]⟩, .string ⟨#[]⟩, .string ⟨#[]⟩])
  have HX := hide (h0.alloc (.cells #[.int .i64 0, .int .u32 0, .int .u32 0, .int .u64 0, .string ⟨#[]⟩, .string ⟨#[]⟩, .string ⟨#[]⟩, .string ⟨#[]⟩, .string ⟨#[]⟩, .string ⟨#[]⟩, .string ⟨#[]⟩, .string ⟨#[]⟩, .string ⟨#[]⟩] 29))
  have HO := hide ((Only.refl [s] w).alloc (.cells #[.int .i64 0, .int .u32 0, .int .u32 0, .int .u64 0, .string ⟨#[]⟩, .string ⟨#[]⟩, .string ⟨#[]⟩, .string ⟨#[]⟩, .string ⟨#[]⟩, .string ⟨#[]⟩, .string ⟨#[]⟩, .string ⟨#[]⟩, .string ⟨#[]⟩] 29))
  replace HP := hide (HP.out.alloc (.cells #[.int .i64 0, .int .u32 0, .int .u32 0, .int .u64 0, .string ⟨#[]⟩, .string ⟨#[]⟩, .string ⟨#[]⟩, .string ⟨#[]⟩, .string ⟨#[]⟩, .string ⟨#[]⟩, .string ⟨#[]⟩, .string ⟨#[]⟩, .string ⟨#[]⟩] 29))
  have HS := hide (show Blk _ s 102 _ from hsr.alloc (.cells #[.int .i64 0, .int .u32 0, .int .u32 0, .int .u64 0, .string ⟨#[]⟩, .string ⟨#[]⟩, .string ⟨#[]⟩, .string ⟨#[]⟩, .string ⟨#[]⟩, .string ⟨#[]⟩, .string ⟨#[]⟩, .string ⟨#[]⟩, .string ⟨#[]⟩] 29))
  have HTB := hide ht
  have HSG := hide hsg
  have HNE := hide hne
  have HPG := hide hpg
  have HTM := hide (show timeV (t : Int) = true from by unfold timeV; rw [decide_eq_true (by omega), decide_eq_true (by omega)]; rfl)
  have HKD := hide (fun W => Kind_any W self hs)
  unfold KindPost at HKD
  have hkd : (kindT self == 0) = false := by rw [beq_eq_false_iff_ne]; exact hself
  have HSEC := hide (fun W (h : SrcIs W s a i m) (hx : Only [] w0 W) => secret_more w0.heap.size s a i m W ha h hsg hx.size (fun V hb => ht.only (only_of_below ((hx.below (S := []) (by simp) (Nat.le_refl _)).trans hb)) (by simp)))
  have HIDX := hide (fun W (h : SrcIs W s (a + 1) i m) => index_more w0.heap.size s (a + 1) i m W hi h hsg)
  have HSTP := hide (fun W (h : SrcIs W s (a + 1) (i + 1) m) => stamp_ok w0.heap.size s (a + 1) (i + 1) m t W ht1 hm h hsg)
  obtain ⟨sec, hsec⟩ : ∃ x, x = secT a := ⟨_, rfl⟩
  rw [← hsec] at hKB ⊢
  have hse : (⟨(97 :: Lib.decDigits a).toArray⟩ : ByteArray) = sec := hsec.symm
  rw [hse] at HSEC
  clear hse
  obtain ⟨mx, hmx⟩ : ∃ x, x = max m t := ⟨_, rfl⟩
  rw [← hmx] at hKB HSTP ⊢
  clear hsec hmx
  have HKB_ := hide hKB
  have HKS := hide hKS
  unfold BeginPost at HKB_
  have HSGN := hide (fun W (h : Blk W g 110 #[.string pub, .string shr, .int .i64 eq, .pointer (some ⟨rg, 0, none⟩), .pointer (some ⟨sl, 0, none⟩), .pointer none, .string ck, .int .i64 cm, .bool sp, .int .u64 (sm : Nat), .bool ow, .int .i64 ot, .bool wa, .int .i64 wt]) (htw : Tab W) => psign_any W g ⟨pub, shr, eq, rg, sl, none, ck, cm, sp, sm, ow, ot, wa, wt⟩ (t : Int) (Mg.mk 1 i 0 0 ep sA sB ⟨#[]⟩ ⟨#[]⟩ ⟨#[]⟩ ⟨#[]⟩ ⟨#[48]⟩ ⟨#[48]⟩) 0 (Mg.mk 1 i 0 0 ep sA sB ⟨#[]⟩ ⟨#[]⟩ ⟨#[]⟩ ⟨#[]⟩ m1 m2) h htw h64 hKS)
  unfold CellsPost Mg.cells at HSGN
  simp only [show ((0 : Nat) : Int) = 0 from rfl] at HSGN
  clear hKB hKS h64 ht h0 hpg hsg hne hsr hs hself
  generalize kindT self = kd at *
  have p0 := HP.out.cell 0; have p5 := HP.out.cell 5; have fz := HP.out.frozen 5; simp at p0 p5
  go_enter Tryz.func9, Tryz.ntmps9
  go_upto_region 10 with (first
      | (go_at_call 52; refine (time15 _ _).mono ?_; rintro e wt_ ⟨rfl, rfl⟩; rw [HTM.out])
      | (go_at_call 53; refine (HKD.out _).mono ?_; rintro e w1 ⟨rfl, ho⟩; have HX := hide (since HX.out (by simp) ho); have HO := hide (HO.out.trans (ho.mono (by simp))); have HP := hide (HP.out.only ho (by simp)); have HZ := hide (HZ.out.only ho (by simp)); have HS := hide (HS.out.only ho (by simp)); clear ho; clear p0 p5 fz; have p0 := HP.out.cell 0; have p5 := HP.out.cell 5; have fz := HP.out.frozen 5; simp at p0 p5))
  clear HKD HTM
  go_upto_region 19 with (first
      | (go_at_call 55; refine (HSEC.out _ HS.out HX.out).mono ?_; rintro e w2 ⟨rfl, hs2, _, ho⟩; have HX := hide (since HX.out (by have := HSG.out; simp; omega) ho); have HO := hide (HO.out.trans (ho.mono (by simp))); have HP := hide (HP.out.only ho (by have := HNE.out; simp; omega)); have HZ := hide (HZ.out.only ho (by have := HSL.out; simp; omega)); have HS2 := hide hs2; clear ho hs2 HS; clear p0 p5 fz; have p0 := HP.out.cell 0; have p5 := HP.out.cell 5; have fz := HP.out.frozen 5; simp at p0 p5)
      | (go_at_call 56; refine (HIDX.out _ HS2.out).mono ?_; rintro e w3 ⟨rfl, hs2, _, ho⟩; have HX := hide (since HX.out (by have := HSG.out; simp; omega) ho); have HO := hide (HO.out.trans (ho.mono (by simp))); have HP := hide (HP.out.only ho (by have := HNE.out; simp; omega)); have HZ := hide (HZ.out.only ho (by have := HSL.out; simp; omega)); have HS3 := hide hs2; clear ho hs2 HS2; clear p0 p5 fz; have p0 := HP.out.cell 0; have p5 := HP.out.cell 5; have fz := HP.out.frozen 5; simp at p0 p5)
      | (go_at_call 57; refine (HSTP.out _ HS3.out).mono ?_; rintro e w4 ⟨rfl, hs2, _, ho⟩; have HX := hide (since HX.out (by have := HSG.out; simp; omega) ho); have HO := hide (HO.out.trans (ho.mono (by simp))); have HP := hide (HP.out.only ho (by have := HNE.out; simp; omega)); have HZ := hide (HZ.out.only ho (by have := HSL.out; simp; omega)); have HS := hide hs2; clear ho hs2 HS3; clear p0 p5 fz; have p0 := HP.out.cell 0; have p5 := HP.out.cell 5; have fz := HP.out.frozen 5; simp at p0 p5))
  clear HSEC HIDX HSTP
  go_upto_region 20 with (go_at_call 58; refine (HKB_.out _ (HTB.out.only HX.out (by simp))).mono ?_; rintro e wb ⟨rfl, ho⟩; have HX := hide (since HX.out (by simp) ho); have HO := hide (HO.out.trans (ho.mono (by simp))); have HP := hide (HP.out.only ho (by simp)); have HZ := hide (HZ.out.only ho (by simp)); have HS := hide (HS.out.only ho (by simp)); clear ho; clear p0 p5 fz)
  have HM := hide ((Blk.new wb 29 #[.int .i64 1, .int .u32 (i : Nat), .int .u32 0, .int .u64 0, .string ep, .string sA, .string sB, .string ⟨#[]⟩, .string ⟨#[]⟩, .string ⟨#[]⟩, .string ⟨#[]⟩, .string ⟨#[48]⟩, .string ⟨#[48]⟩]).alloc (.cells #[.int .u32 (i : Nat), .string sec, .string cC, .string hC] 112))
  have HST := hide (Blk.new (wb.alloc (.cells #[.int .i64 1, .int .u32 (i : Nat), .int .u32 0, .int .u64 0, .string ep, .string sA, .string sB, .string ⟨#[]⟩, .string ⟨#[]⟩, .string ⟨#[]⟩, .string ⟨#[]⟩, .string ⟨#[48]⟩, .string ⟨#[48]⟩] 29)) 112 #[.int .u32 (i : Nat), .string sec, .string cC, .string hC])
  rw [World.size_alloc] at HST
  have hx := ((Only.refl [] wb).alloc (.cells #[.int .i64 1, .int .u32 (i : Nat), .int .u32 0, .int .u64 0, .string ep, .string sA, .string sB, .string ⟨#[]⟩, .string ⟨#[]⟩, .string ⟨#[]⟩, .string ⟨#[]⟩, .string ⟨#[48]⟩, .string ⟨#[48]⟩] 29)).alloc (.cells #[.int .u32 (i : Nat), .string sec, .string cC, .string hC] 112)
  replace HX := hide (since HX.out (by simp) hx); replace HO := hide (HO.out.trans (hx.mono (by simp))); replace HP := hide (HP.out.only hx (by simp)); replace HZ := hide (HZ.out.only hx (by simp)); replace HS := hide (HS.out.only hx (by simp))
  have HBS := hide wb.heap.size.le_refl
  clear hx HKB_
  generalize (wb.alloc (.cells #[.int .i64 1, .int .u32 (i : Nat), .int .u32 0, .int .u64 0, .string ep, .string sA, .string sB, .string ⟨#[]⟩, .string ⟨#[]⟩, .string ⟨#[]⟩, .string ⟨#[]⟩, .string ⟨#[48]⟩, .string ⟨#[48]⟩] 29)).alloc (.cells #[.int .u32 (i : Nat), .string sec, .string cC, .string hC] 112) = w5 at *
  obtain ⟨gm, hgm⟩ : ∃ x, x = wb.heap.size := ⟨_, rfl⟩
  rw [← hgm] at HM HST ⊢
  clear hgm HBS
  obtain ⟨m0_, m1_, m2_, m3_, m4_, m5_, m6_, m7_, m8_, m9_, m10_, m11_, m12_⟩ := cells13 HM.out
  have p0 := HP.out.cell 0; have p5 := HP.out.cell 5; have fz := HP.out.frozen 5; simp at p0 p5
  go_upto_region 23 with (go_at_call 59; (with_reducible refine (HSGN.out _ HP.out (HTB.out.only HX.out (by simp))).mono ?_); rintro e ws ⟨rfl, ho⟩; replace HX := hide (since HX.out (by simp) ho); replace HO := hide (HO.out.trans (ho.mono (by simp))); replace HP := hide (HP.out.only ho (by simp)); replace HZ := hide (HZ.out.only ho (by simp)); replace HS := hide (HS.out.only ho (by simp)); replace HST := hide (HST.out.only ho (by simp)); clear ho HM; clear p0 p5 fz; clear m0_ m1_ m2_ m3_ m4_ m5_ m6_ m7_ m8_ m9_ m10_ m11_ m12_)
  have HMN := hide (show g < ws.heap.size from HP.out.lt)
  have HM := hide (Blk.new ws 29 #[.int .i64 1, .int .u32 (i : Nat), .int .u32 0, .int .u64 0, .string ep, .string sA, .string sB, .string ⟨#[]⟩, .string ⟨#[]⟩, .string ⟨#[]⟩, .string ⟨#[]⟩, .string m1, .string m2])
  have hx := (Only.refl [] ws).alloc (.cells #[.int .i64 1, .int .u32 (i : Nat), .int .u32 0, .int .u64 0, .string ep, .string sA, .string sB, .string ⟨#[]⟩, .string ⟨#[]⟩, .string ⟨#[]⟩, .string ⟨#[]⟩, .string m1, .string m2] 29)
  replace HX := hide (since HX.out (by simp) hx); replace HO := hide (HO.out.trans (hx.mono (by simp))); replace HP := hide (HP.out.only hx (by simp)); replace HZ := hide (HZ.out.only hx (by simp)); replace HS := hide (HS.out.only hx (by simp))
  replace HST := hide (HST.out.only hx (by simp))
  clear hx HSGN
  generalize ws.alloc (.cells #[.int .i64 1, .int .u32 (i : Nat), .int .u32 0, .int .u64 0, .string ep, .string sA, .string sB, .string ⟨#[]⟩, .string ⟨#[]⟩, .string ⟨#[]⟩, .string ⟨#[]⟩, .string m1, .string m2] 29) = w6 at *
  obtain ⟨gn, hgn⟩ : ∃ x, x = ws.heap.size := ⟨_, rfl⟩
  rw [← hgn] at HM HMN ⊢
  clear hgn
  have n11 := HM.out.cell 11; simp at n11
  obtain ⟨s0, s1, s2, s3⟩ := cells4 HST.out
  have p0 := HP.out.cell 0; have p5 := HP.out.cell 5; have fz := HP.out.frozen 5; simp at p0 p5
  have hpa := HP.out.alloc (.cells #[.int .u32 (i : Nat), .string sec, .string cC, .string hC, .int .i64 (t : Nat), .int .i64 (t : Nat), .string m1] 114)
  have p5a := hpa.cell 5; have fza := hpa.frozen 5; simp at p5a
  have HPA := hide hpa
  clear hpa
  go_upto_region 29 with fail
  have HGL := hide HP.out.lt; have HGO := hide HO.out.size; have HZL := hide HZ.out.lt
  have HKN := hide ((Blk.new w6 114 #[.int .u32 (i : Nat), .string sec, .string cC, .string hC, .int .i64 (t : Nat), .int .i64 (t : Nat), .string m1]).far (p := ⟨g, 5, none⟩) (by have := HGL.out; simp; omega) (.pointer (some ⟨w6.heap.size, 0, none⟩)))
  replace HP := hide (show Blk ((w6.alloc (.cells #[.int .u32 (i : Nat), .string sec, .string cC, .string hC, .int .i64 (t : Nat), .int .i64 (t : Nat), .string m1] 114)).setCell ⟨g, 5, none⟩ (.pointer (some ⟨w6.heap.size, 0, none⟩))) g 110 #[.string pub, .string shr, .int .i64 eq, .pointer (some ⟨rg, 0, none⟩), .pointer (some ⟨sl, 0, none⟩), .pointer (some ⟨w6.heap.size, 0, none⟩), .string ck, .int .i64 cm, .bool sp, .int .u64 (sm : Nat), .bool ow, .int .i64 ot, .bool wa, .int .i64 wt] from (by have h := HPA.out.set_ 5 (.pointer (some ⟨w6.heap.size, 0, none⟩)); simp only [List.setIfInBounds_toArray, List.set_cons_zero, List.set_cons_succ] at h; exact h))
  have HMG := hide (show gn ≠ g from (by have := HM.out.lt; have := HMN.out; omega))
  replace HM := hide ((HM.out.alloc (.cells #[.int .u32 (i : Nat), .string sec, .string cC, .string hC, .int .i64 (t : Nat), .int .i64 (t : Nat), .string m1] 114)).far (p := ⟨g, 5, none⟩) (by have := HMG.out; simp; omega) (.pointer (some ⟨w6.heap.size, 0, none⟩)))
  replace HZ := hide ((HZ.out.alloc (.cells #[.int .u32 (i : Nat), .string sec, .string cC, .string hC, .int .i64 (t : Nat), .int .i64 (t : Nat), .string m1] 114)).far (p := ⟨g, 5, none⟩) (by have := HPL.out; simp; omega) (.pointer (some ⟨w6.heap.size, 0, none⟩)))
  replace HS := hide ((HS.out.alloc (.cells #[.int .u32 (i : Nat), .string sec, .string cC, .string hC, .int .i64 (t : Nat), .int .i64 (t : Nat), .string m1] 114)).far (p := ⟨g, 5, none⟩) (by have := HNE.out; simp; omega) (.pointer (some ⟨w6.heap.size, 0, none⟩)))
  replace HO := hide (((HO.out.mono (S' := [g, s]) (by simp)).alloc (.cells #[.int .u32 (i : Nat), .string sec, .string cC, .string hC, .int .i64 (t : Nat), .int .i64 (t : Nat), .string m1] 114)).setCell (p := ⟨g, 5, none⟩) (.inl (by simp)) (.pointer (some ⟨w6.heap.size, 0, none⟩)))
  have HKR := hide (show w.heap.size < w6.heap.size from HZL.out)
  have HKG := hide (show w.heap.size ≤ w6.heap.size ∧ w6.heap.size ≠ g from ⟨HGO.out, by have := HGL.out; omega⟩)
  obtain ⟨kk, hkk⟩ : ∃ x, x = w6.heap.size := ⟨_, rfl⟩
  rw [← hkk] at HKN HP HM HZ HS HO HKG HKR ⊢
  generalize ((w6.alloc (.cells #[.int .u32 (i : Nat), .string sec, .string cC, .string hC, .int .i64 (t : Nat), .int .i64 (t : Nat), .string m1] 114)).setCell ⟨g, 5, none⟩ (.pointer (some ⟨kk, 0, none⟩))) = w8 at *
  clear hkk HPA p5a fza n11 s0 s1 s2 s3 HX; clear p0 p5 fz
  (iterate 2 go_step)
  refine wp_load_mid 29 (.tmp 17) rfl gn 0 rfl [.int .i64 1, .int .u32 (i : Nat), .int .u32 0, .int .u64 0, .string ep, .string sA, .string sB, .string ⟨#[]⟩, .string ⟨#[]⟩, .string ⟨#[]⟩, .string ⟨#[]⟩, .string m1, .string m2] _ (blk_range HM.out) Tryz.underlying29 rfl (by kernel_rfl) ?_
  (iterate 1 go_step)
  first | refine wp_store_mid _ _ _ rfl (w.heap.size) 0 #[.int .i64 1, .int .u32 (i : Nat), .int .u32 0, .int .u64 0, .string ep, .string sA, .string sB, .string ⟨#[]⟩, .string ⟨#[]⟩, .string ⟨#[]⟩, .string ⟨#[]⟩, .string m1, .string m2] rfl rfl (blk_there HZ.out _ rfl) (by kernel_rfl) (by simp [Value.oneCell']) ?_ | refine wpList_store_mid rfl _ _ _ rfl (w.heap.size) 0 #[.int .i64 1, .int .u32 (i : Nat), .int .u32 0, .int .u64 0, .string ep, .string sA, .string sB, .string ⟨#[]⟩, .string ⟨#[]⟩, .string ⟨#[]⟩, .string ⟨#[]⟩, .string m1, .string m2] rfl rfl (blk_there HZ.out _ rfl) (by kernel_rfl) (by simp [Value.oneCell']) ?_
  replace HZ := hide (show Blk (w8.setCells w.heap.size 0 [.int .i64 1, .int .u32 (i : Nat), .int .u32 0, .int .u64 0, .string ep, .string sA, .string sB, .string ⟨#[]⟩, .string ⟨#[]⟩, .string ⟨#[]⟩, .string ⟨#[]⟩, .string m1, .string m2]) _ _ #[.int .i64 1, .int .u32 (i : Nat), .int .u32 0, .int .u64 0, .string ep, .string sA, .string sB, .string ⟨#[]⟩, .string ⟨#[]⟩, .string ⟨#[]⟩, .string ⟨#[]⟩, .string m1, .string m2] from blk_stored HZ.out [.int .i64 1, .int .u32 (i : Nat), .int .u32 0, .int .u64 0, .string ep, .string sA, .string sB, .string ⟨#[]⟩, .string ⟨#[]⟩, .string ⟨#[]⟩, .string ⟨#[]⟩, .string m1, .string m2] rfl)
  replace HP := hide (show Blk (w8.setCells w.heap.size 0 [.int .i64 1, .int .u32 (i : Nat), .int .u32 0, .int .u64 0, .string ep, .string sA, .string sB, .string ⟨#[]⟩, .string ⟨#[]⟩, .string ⟨#[]⟩, .string ⟨#[]⟩, .string m1, .string m2]) _ _ _ from blk_far HP.out (by have := HPL.out; omega) [.int .i64 1, .int .u32 (i : Nat), .int .u32 0, .int .u64 0, .string ep, .string sA, .string sB, .string ⟨#[]⟩, .string ⟨#[]⟩, .string ⟨#[]⟩, .string ⟨#[]⟩, .string m1, .string m2])
  replace HKN := hide (show Blk (w8.setCells w.heap.size 0 [.int .i64 1, .int .u32 (i : Nat), .int .u32 0, .int .u64 0, .string ep, .string sA, .string sB, .string ⟨#[]⟩, .string ⟨#[]⟩, .string ⟨#[]⟩, .string ⟨#[]⟩, .string m1, .string m2]) _ _ _ from blk_far HKN.out (by have := HKR.out; omega) [.int .i64 1, .int .u32 (i : Nat), .int .u32 0, .int .u64 0, .string ep, .string sA, .string sB, .string ⟨#[]⟩, .string ⟨#[]⟩, .string ⟨#[]⟩, .string ⟨#[]⟩, .string m1, .string m2])
  replace HS := hide (show Blk (w8.setCells w.heap.size 0 [.int .i64 1, .int .u32 (i : Nat), .int .u32 0, .int .u64 0, .string ep, .string sA, .string sB, .string ⟨#[]⟩, .string ⟨#[]⟩, .string ⟨#[]⟩, .string ⟨#[]⟩, .string m1, .string m2]) _ _ _ from blk_far HS.out (by have := HSL.out; omega) [.int .i64 1, .int .u32 (i : Nat), .int .u32 0, .int .u64 0, .string ep, .string sA, .string sB, .string ⟨#[]⟩, .string ⟨#[]⟩, .string ⟨#[]⟩, .string ⟨#[]⟩, .string m1, .string m2])
  replace HO := hide (show Only [g, s] w (w8.setCells w.heap.size 0 [.int .i64 1, .int .u32 (i : Nat), .int .u32 0, .int .u64 0, .string ep, .string sA, .string sB, .string ⟨#[]⟩, .string ⟨#[]⟩, .string ⟨#[]⟩, .string ⟨#[]⟩, .string m1, .string m2]) from Only.setCells (.inr (Nat.le_refl _)) 0 [.int .i64 1, .int .u32 (i : Nat), .int .u32 0, .int .u64 0, .string ep, .string sA, .string sB, .string ⟨#[]⟩, .string ⟨#[]⟩, .string ⟨#[]⟩, .string ⟨#[]⟩, .string m1, .string m2] HO.out)
  dsimp only
  generalize (w8.setCells w.heap.size 0 [.int .i64 1, .int .u32 (i : Nat), .int .u32 0, .int .u64 0, .string ep, .string sA, .string sB, .string ⟨#[]⟩, .string ⟨#[]⟩, .string ⟨#[]⟩, .string ⟨#[]⟩, .string m1, .string m2]) = w9 at *
  (repeat go_step)
  refine bodyPost_ret (results_cell_two rfl _ _ w.heap.size 29 _ (0, 0) _ rfl HZ.out Tryz.underlying29 rfl (by kernel_rfl)) rfl ?_
  exact ⟨rfl, ⟨kk, HKG.out.1, HP.out, fun s h => by cases h; exact ⟨HKG.out.2, HKN.out⟩⟩, HS.out, HO.out⟩
set_option maxRecDepth 100000 in
set_option maxHeartbeats 12800000 in
theorem knock_again (w0 w : World) (g s a i m t : Nat) (p : Pr) (self ep sA sB cC hC m1 m2 : ByteArray) (hA : Around w0 w g s a i m p) (hs : self.size ≤ maxLen) (hself : kindT self ≠ 0) (ha : a < 4294967295) (hi : i < 4294967295) (hm : m ≤ 2000000000000000) (ht1 : t ≤ 1125899906842624)
    (k0 : Sk) (hsk : p.sk = some k0) (hold : ¬ (t : Int) - k0.st < 5000) (h64b : wrap64 ((t : Int) - k0.st) = (t : Int) - k0.st)
    (h64 : wrap64 ((t : Int) - p.cm) = (t : Int) - p.cm)
    (hKB : ∀ W, Tab W → Calls Tryz.prog 58 #[.string self, .string (secT a), .string p.pub, .int .u64 ((max m t : Nat) : Int), .int .u32 (i : Int)] W (BeginPost 0 #[.int .i64 1, .int .u32 (i : Nat), .int .u32 0, .int .u64 0, .string ep, .string sA, .string sB, .string ⟨#[]⟩, .string ⟨#[]⟩, .string ⟨#[]⟩, .string ⟨#[]⟩, .string ⟨#[48]⟩, .string ⟨#[48]⟩] #[.int .u32 (i : Nat), .string (secT a), .string cC, .string hC] W))
    (hKS : ∀ W, Tab W → Calls Tryz.prog 132 #[.agg (Mg.mk 1 i 0 0 ep sA sB ⟨#[]⟩ ⟨#[]⟩ ⟨#[]⟩ ⟨#[]⟩ ⟨#[48]⟩ ⟨#[48]⟩).cells, .string p.pub, .string (byV t p.cm p.ck)] W (SignPost (0, Mg.mk 1 i 0 0 ep sA sB ⟨#[]⟩ ⟨#[]⟩ ⟨#[]⟩ ⟨#[]⟩ m1 m2) W)) :
    Calls Tryz.prog 9 #[.pointer (some ⟨g, 0, none⟩), .int .i64 (t : Int), .string self, .pointer (some ⟨s, 0, none⟩)] w (KnockPost w g s a i (max m t + 1) p #[.int .i64 1, .int .u32 (i : Nat), .int .u32 0, .int .u64 0, .string ep, .string sA, .string sB, .string ⟨#[]⟩, .string ⟨#[]⟩, .string ⟨#[]⟩, .string ⟨#[]⟩, .string m1, .string m2] ⟨0, i, secT a, cC, hC, k0.bg, t, m1⟩) := by
  obtain ⟨ht, h0, hpg, hsg, hne, hsr, hpr, hks⟩ := hA
  obtain ⟨hkg, hkb⟩ := hpr.2 _ hsk
  obtain ⟨hk0, hks2⟩ := hks _ hsk
  obtain ⟨pub, shr, eq, rg, sl, sk, ck, cm, sp, sm, ow, ot, wa, wt⟩ := p
  simp only at hsk hKB hKS h64
  subst hsk
  obtain ⟨kg, ksd, ke, kc, kh, kbg, kst, km1⟩ := k0
  simp only at hkg hkb hk0 hks2 hold
  unfold skC at hkb
  simp only at hkb
  have HP := hide (show Blk w g 110 #[.string pub, .string shr, .int .i64 eq, .pointer (some ⟨rg, 0, none⟩), .pointer (some ⟨sl, 0, none⟩), .pointer (some ⟨kg, 0, none⟩), .string ck, .int .i64 cm, .bool sp, .int .u64 (sm : Nat), .bool ow, .int .i64 ot, .bool wa, .int .i64 wt] from hpr.1)
  clear hpr hks
  have HSL := hide hsr.lt
  have HPL := hide HP.out.lt
  have HZ := hide (Blk.new w 29 #[.int .i64 0, .int .u32 0, .int .u32 0, .int .u64 0, .string ⟨#[]⟩, .string ⟨#[]⟩, .string ⟨#[]⟩, .string ⟨#[]⟩, .string ⟨#[]⟩, .string ⟨#[]⟩, .string ⟨#[]⟩, .string ⟨#[]⟩, .string ⟨#[]⟩])
  have HX := hide (h0.alloc (.cells #[.int .i64 0, .int .u32 0, .int .u32 0, .int .u64 0, .string ⟨#[]⟩, .string ⟨#[]⟩, .string ⟨#[]⟩, .string ⟨#[]⟩, .string ⟨#[]⟩, .string ⟨#[]⟩, .string ⟨#[]⟩, .string ⟨#[]⟩, .string ⟨#[]⟩] 29))
  have HO := hide ((Only.refl [s] w).alloc (.cells #[.int .i64 0, .int .u32 0, .int .u32 0, .int .u64 0, .string ⟨#[]⟩, .string ⟨#[]⟩, .string ⟨#[]⟩, .string ⟨#[]⟩, .string ⟨#[]⟩, .string ⟨#[]⟩, .string ⟨#[]⟩, .string ⟨#[]⟩, .string ⟨#[]⟩] 29))
  replace HP := hide (HP.out.alloc (.cells #[.int .i64 0, .int .u32 0, .int .u32 0, .int .u64 0, .string ⟨#[]⟩, .string ⟨#[]⟩, .string ⟨#[]⟩, .string ⟨#[]⟩, .string ⟨#[]⟩, .string ⟨#[]⟩, .string ⟨#[]⟩, .string ⟨#[]⟩, .string ⟨#[]⟩] 29))
  have HS := hide (show Blk _ s 102 _ from hsr.alloc (.cells #[.int .i64 0, .int .u32 0, .int .u32 0, .int .u64 0, .string ⟨#[]⟩, .string ⟨#[]⟩, .string ⟨#[]⟩, .string ⟨#[]⟩, .string ⟨#[]⟩, .string ⟨#[]⟩, .string ⟨#[]⟩, .string ⟨#[]⟩, .string ⟨#[]⟩] 29))
  have HKL := hide hkb.lt
  have HKB := hide (hkb.alloc (.cells #[.int .i64 0, .int .u32 0, .int .u32 0, .int .u64 0, .string ⟨#[]⟩, .string ⟨#[]⟩, .string ⟨#[]⟩, .string ⟨#[]⟩, .string ⟨#[]⟩, .string ⟨#[]⟩, .string ⟨#[]⟩, .string ⟨#[]⟩, .string ⟨#[]⟩] 29))
  clear hkb
  have HTB := hide ht
  have HSG := hide hsg
  have HNE := hide hne
  have HPG := hide hpg
  have HK2 := hide hks2
  have HK3 := hide hkg
  have HTM := hide (show timeV (t : Int) = true from by unfold timeV; rw [decide_eq_true (by omega), decide_eq_true (by omega)]; rfl)
  have HKD := hide (fun W => Kind_any W self hs)
  unfold KindPost at HKD
  have hkd : (kindT self == 0) = false := by rw [beq_eq_false_iff_ne]; exact hself
  have HSEC := hide (fun W (h : SrcIs W s a i m) (hx : Only [] w0 W) => secret_more w0.heap.size s a i m W ha h hsg hx.size (fun V hb => ht.only (only_of_below ((hx.below (S := []) (by simp) (Nat.le_refl _)).trans hb)) (by simp)))
  have HIDX := hide (fun W (h : SrcIs W s (a + 1) i m) => index_more w0.heap.size s (a + 1) i m W hi h hsg)
  have HSTP := hide (fun W (h : SrcIs W s (a + 1) (i + 1) m) => stamp_ok w0.heap.size s (a + 1) (i + 1) m t W ht1 hm h hsg)
  obtain ⟨sec, hsec⟩ : ∃ x, x = secT a := ⟨_, rfl⟩
  rw [← hsec] at hKB ⊢
  have hse : (⟨(97 :: Lib.decDigits a).toArray⟩ : ByteArray) = sec := hsec.symm
  rw [hse] at HSEC
  clear hse
  obtain ⟨mx, hmx⟩ : ∃ x, x = max m t := ⟨_, rfl⟩
  rw [← hmx] at hKB HSTP ⊢
  clear hsec hmx
  have HKB_ := hide hKB
  have HKS := hide hKS
  unfold BeginPost at HKB_
  have HSGN := hide (fun W (h : Blk W g 110 #[.string pub, .string shr, .int .i64 eq, .pointer (some ⟨rg, 0, none⟩), .pointer (some ⟨sl, 0, none⟩), .pointer (some ⟨kg, 0, none⟩), .string ck, .int .i64 cm, .bool sp, .int .u64 (sm : Nat), .bool ow, .int .i64 ot, .bool wa, .int .i64 wt]) (htw : Tab W) => psign_any W g ⟨pub, shr, eq, rg, sl, some ⟨kg, ksd, ke, kc, kh, kbg, kst, km1⟩, ck, cm, sp, sm, ow, ot, wa, wt⟩ (t : Int) (Mg.mk 1 i 0 0 ep sA sB ⟨#[]⟩ ⟨#[]⟩ ⟨#[]⟩ ⟨#[]⟩ ⟨#[48]⟩ ⟨#[48]⟩) 0 (Mg.mk 1 i 0 0 ep sA sB ⟨#[]⟩ ⟨#[]⟩ ⟨#[]⟩ ⟨#[]⟩ m1 m2) h htw h64 hKS)
  unfold CellsPost Mg.cells at HSGN
  simp only [show ((0 : Nat) : Int) = 0 from rfl] at HSGN
  have hol : decide ((t : Int) - kst < 5000) = false := decide_eq_false hold
  have h64k : wrap64 ((t : Int) - kst) = (t : Int) - kst := h64b
  clear hKB hKS h64 ht h0 hpg hsg hne hsr hs hself hkg hk0 hks2 hold h64b
  generalize kindT self = kd at *
  have p0 := HP.out.cell 0; have p5 := HP.out.cell 5; have fz := HP.out.frozen 5; simp at p0 p5; have k4 := HKB.out.cell 4; have k5 := HKB.out.cell 5; simp at k4 k5
  go_enter Tryz.func9, Tryz.ntmps9
  go_upto_region 10 with (first
      | (go_at_call 52; refine (time15 _ _).mono ?_; rintro e wt_ ⟨rfl, rfl⟩; rw [HTM.out])
      | (go_at_call 53; refine (HKD.out _).mono ?_; rintro e w1 ⟨rfl, ho⟩; have HX := hide (since HX.out (by simp) ho); have HO := hide (HO.out.trans (ho.mono (by simp))); have HP := hide (HP.out.only ho (by simp)); have HZ := hide (HZ.out.only ho (by simp)); have HKB := hide (HKB.out.only ho (by simp)); have HS := hide (HS.out.only ho (by simp)); clear ho; clear p0 p5 fz k4 k5; have p0 := HP.out.cell 0; have p5 := HP.out.cell 5; have fz := HP.out.frozen 5; simp at p0 p5; have k4 := HKB.out.cell 4; have k5 := HKB.out.cell 5; simp at k4 k5))
  clear HKD HTM
  go_upto_region 19 with (first
      | (go_at_call 55; refine (HSEC.out _ HS.out HX.out).mono ?_; rintro e w2 ⟨rfl, hs2, _, ho⟩; have HX := hide (since HX.out (by have := HSG.out; simp; omega) ho); have HO := hide (HO.out.trans (ho.mono (by simp))); have HP := hide (HP.out.only ho (by have := HNE.out; simp; omega)); have HZ := hide (HZ.out.only ho (by have := HSL.out; simp; omega)); have HKB := hide (HKB.out.only ho (by have := HK2.out; simp; omega)); have HS2 := hide hs2; clear ho hs2 HS; clear p0 p5 fz k4 k5; have p0 := HP.out.cell 0; have p5 := HP.out.cell 5; have fz := HP.out.frozen 5; simp at p0 p5; have k4 := HKB.out.cell 4; have k5 := HKB.out.cell 5; simp at k4 k5)
      | (go_at_call 56; refine (HIDX.out _ HS2.out).mono ?_; rintro e w3 ⟨rfl, hs2, _, ho⟩; have HX := hide (since HX.out (by have := HSG.out; simp; omega) ho); have HO := hide (HO.out.trans (ho.mono (by simp))); have HP := hide (HP.out.only ho (by have := HNE.out; simp; omega)); have HZ := hide (HZ.out.only ho (by have := HSL.out; simp; omega)); have HKB := hide (HKB.out.only ho (by have := HK2.out; simp; omega)); have HS3 := hide hs2; clear ho hs2 HS2; clear p0 p5 fz k4 k5; have p0 := HP.out.cell 0; have p5 := HP.out.cell 5; have fz := HP.out.frozen 5; simp at p0 p5; have k4 := HKB.out.cell 4; have k5 := HKB.out.cell 5; simp at k4 k5)
      | (go_at_call 57; refine (HSTP.out _ HS3.out).mono ?_; rintro e w4 ⟨rfl, hs2, _, ho⟩; have HX := hide (since HX.out (by have := HSG.out; simp; omega) ho); have HO := hide (HO.out.trans (ho.mono (by simp))); have HP := hide (HP.out.only ho (by have := HNE.out; simp; omega)); have HZ := hide (HZ.out.only ho (by have := HSL.out; simp; omega)); have HKB := hide (HKB.out.only ho (by have := HK2.out; simp; omega)); have HS := hide hs2; clear ho hs2 HS3; clear p0 p5 fz k4 k5; have p0 := HP.out.cell 0; have p5 := HP.out.cell 5; have fz := HP.out.frozen 5; simp at p0 p5; have k4 := HKB.out.cell 4; have k5 := HKB.out.cell 5; simp at k4 k5))
  clear HSEC HIDX HSTP
  go_upto_region 20 with (go_at_call 58; refine (HKB_.out _ (HTB.out.only HX.out (by simp))).mono ?_; rintro e wb ⟨rfl, ho⟩; have HX := hide (since HX.out (by simp) ho); have HO := hide (HO.out.trans (ho.mono (by simp))); have HP := hide (HP.out.only ho (by simp)); have HZ := hide (HZ.out.only ho (by simp)); have HKB := hide (HKB.out.only ho (by simp)); have HS := hide (HS.out.only ho (by simp)); clear ho; clear p0 p5 fz k4 k5)
  have HM := hide ((Blk.new wb 29 #[.int .i64 1, .int .u32 (i : Nat), .int .u32 0, .int .u64 0, .string ep, .string sA, .string sB, .string ⟨#[]⟩, .string ⟨#[]⟩, .string ⟨#[]⟩, .string ⟨#[]⟩, .string ⟨#[48]⟩, .string ⟨#[48]⟩]).alloc (.cells #[.int .u32 (i : Nat), .string sec, .string cC, .string hC] 112))
  have HST := hide (Blk.new (wb.alloc (.cells #[.int .i64 1, .int .u32 (i : Nat), .int .u32 0, .int .u64 0, .string ep, .string sA, .string sB, .string ⟨#[]⟩, .string ⟨#[]⟩, .string ⟨#[]⟩, .string ⟨#[]⟩, .string ⟨#[48]⟩, .string ⟨#[48]⟩] 29)) 112 #[.int .u32 (i : Nat), .string sec, .string cC, .string hC])
  rw [World.size_alloc] at HST
  have hx := ((Only.refl [] wb).alloc (.cells #[.int .i64 1, .int .u32 (i : Nat), .int .u32 0, .int .u64 0, .string ep, .string sA, .string sB, .string ⟨#[]⟩, .string ⟨#[]⟩, .string ⟨#[]⟩, .string ⟨#[]⟩, .string ⟨#[48]⟩, .string ⟨#[48]⟩] 29)).alloc (.cells #[.int .u32 (i : Nat), .string sec, .string cC, .string hC] 112)
  replace HX := hide (since HX.out (by simp) hx); replace HO := hide (HO.out.trans (hx.mono (by simp))); replace HP := hide (HP.out.only hx (by simp)); replace HZ := hide (HZ.out.only hx (by simp)); replace HKB := hide (HKB.out.only hx (by simp)); replace HS := hide (HS.out.only hx (by simp))
  have HBS := hide wb.heap.size.le_refl
  clear hx HKB_
  generalize (wb.alloc (.cells #[.int .i64 1, .int .u32 (i : Nat), .int .u32 0, .int .u64 0, .string ep, .string sA, .string sB, .string ⟨#[]⟩, .string ⟨#[]⟩, .string ⟨#[]⟩, .string ⟨#[]⟩, .string ⟨#[48]⟩, .string ⟨#[48]⟩] 29)).alloc (.cells #[.int .u32 (i : Nat), .string sec, .string cC, .string hC] 112) = w5 at *
  obtain ⟨gm, hgm⟩ : ∃ x, x = wb.heap.size := ⟨_, rfl⟩
  rw [← hgm] at HM HST ⊢
  clear hgm HBS
  obtain ⟨m0_, m1_, m2_, m3_, m4_, m5_, m6_, m7_, m8_, m9_, m10_, m11_, m12_⟩ := cells13 HM.out
  have p0 := HP.out.cell 0; have p5 := HP.out.cell 5; have fz := HP.out.frozen 5; simp at p0 p5; have k4 := HKB.out.cell 4; have k5 := HKB.out.cell 5; simp at k4 k5
  go_upto_region 23 with (go_at_call 59; (with_reducible refine (HSGN.out _ HP.out (HTB.out.only HX.out (by simp))).mono ?_); rintro e ws ⟨rfl, ho⟩; replace HX := hide (since HX.out (by simp) ho); replace HO := hide (HO.out.trans (ho.mono (by simp))); replace HP := hide (HP.out.only ho (by simp)); replace HZ := hide (HZ.out.only ho (by simp)); replace HKB := hide (HKB.out.only ho (by simp)); replace HS := hide (HS.out.only ho (by simp)); replace HST := hide (HST.out.only ho (by simp)); clear ho HM; clear p0 p5 fz k4 k5; clear m0_ m1_ m2_ m3_ m4_ m5_ m6_ m7_ m8_ m9_ m10_ m11_ m12_)
  have HMN := hide (show g < ws.heap.size from HP.out.lt)
  have HM := hide (Blk.new ws 29 #[.int .i64 1, .int .u32 (i : Nat), .int .u32 0, .int .u64 0, .string ep, .string sA, .string sB, .string ⟨#[]⟩, .string ⟨#[]⟩, .string ⟨#[]⟩, .string ⟨#[]⟩, .string m1, .string m2])
  have hx := (Only.refl [] ws).alloc (.cells #[.int .i64 1, .int .u32 (i : Nat), .int .u32 0, .int .u64 0, .string ep, .string sA, .string sB, .string ⟨#[]⟩, .string ⟨#[]⟩, .string ⟨#[]⟩, .string ⟨#[]⟩, .string m1, .string m2] 29)
  replace HX := hide (since HX.out (by simp) hx); replace HO := hide (HO.out.trans (hx.mono (by simp))); replace HP := hide (HP.out.only hx (by simp)); replace HZ := hide (HZ.out.only hx (by simp)); replace HKB := hide (HKB.out.only hx (by simp)); replace HS := hide (HS.out.only hx (by simp))
  replace HST := hide (HST.out.only hx (by simp))
  clear hx HSGN
  generalize ws.alloc (.cells #[.int .i64 1, .int .u32 (i : Nat), .int .u32 0, .int .u64 0, .string ep, .string sA, .string sB, .string ⟨#[]⟩, .string ⟨#[]⟩, .string ⟨#[]⟩, .string ⟨#[]⟩, .string m1, .string m2] 29) = w6 at *
  obtain ⟨gn, hgn⟩ : ∃ x, x = ws.heap.size := ⟨_, rfl⟩
  rw [← hgn] at HM HMN ⊢
  clear hgn
  have n11 := HM.out.cell 11; simp at n11
  obtain ⟨s0, s1, s2, s3⟩ := cells4 HST.out
  have p0 := HP.out.cell 0; have p5 := HP.out.cell 5; have fz := HP.out.frozen 5; simp at p0 p5; have k4 := HKB.out.cell 4; have k5 := HKB.out.cell 5; simp at k4 k5
  have hpa := HP.out.alloc (.cells #[.int .u32 (i : Nat), .string sec, .string cC, .string hC, .int .i64 kbg, .int .i64 (t : Nat), .string m1] 114)
  have p5a := hpa.cell 5; have fza := hpa.frozen 5; simp at p5a
  have HPA := hide hpa
  clear hpa
  go_upto_region 29 with fail
  have HGL := hide HP.out.lt; have HGO := hide HO.out.size; have HZL := hide HZ.out.lt
  have HKN := hide ((Blk.new w6 114 #[.int .u32 (i : Nat), .string sec, .string cC, .string hC, .int .i64 kbg, .int .i64 (t : Nat), .string m1]).far (p := ⟨g, 5, none⟩) (by have := HGL.out; simp; omega) (.pointer (some ⟨w6.heap.size, 0, none⟩)))
  replace HP := hide (show Blk ((w6.alloc (.cells #[.int .u32 (i : Nat), .string sec, .string cC, .string hC, .int .i64 kbg, .int .i64 (t : Nat), .string m1] 114)).setCell ⟨g, 5, none⟩ (.pointer (some ⟨w6.heap.size, 0, none⟩))) g 110 #[.string pub, .string shr, .int .i64 eq, .pointer (some ⟨rg, 0, none⟩), .pointer (some ⟨sl, 0, none⟩), .pointer (some ⟨w6.heap.size, 0, none⟩), .string ck, .int .i64 cm, .bool sp, .int .u64 (sm : Nat), .bool ow, .int .i64 ot, .bool wa, .int .i64 wt] from (by have h := HPA.out.set_ 5 (.pointer (some ⟨w6.heap.size, 0, none⟩)); simp only [List.setIfInBounds_toArray, List.set_cons_zero, List.set_cons_succ] at h; exact h))
  have HMG := hide (show gn ≠ g from (by have := HM.out.lt; have := HMN.out; omega))
  replace HM := hide ((HM.out.alloc (.cells #[.int .u32 (i : Nat), .string sec, .string cC, .string hC, .int .i64 kbg, .int .i64 (t : Nat), .string m1] 114)).far (p := ⟨g, 5, none⟩) (by have := HMG.out; simp; omega) (.pointer (some ⟨w6.heap.size, 0, none⟩)))
  replace HZ := hide ((HZ.out.alloc (.cells #[.int .u32 (i : Nat), .string sec, .string cC, .string hC, .int .i64 kbg, .int .i64 (t : Nat), .string m1] 114)).far (p := ⟨g, 5, none⟩) (by have := HPL.out; simp; omega) (.pointer (some ⟨w6.heap.size, 0, none⟩)))
  replace HS := hide ((HS.out.alloc (.cells #[.int .u32 (i : Nat), .string sec, .string cC, .string hC, .int .i64 kbg, .int .i64 (t : Nat), .string m1] 114)).far (p := ⟨g, 5, none⟩) (by have := HNE.out; simp; omega) (.pointer (some ⟨w6.heap.size, 0, none⟩)))
  replace HO := hide (((HO.out.mono (S' := [g, s]) (by simp)).alloc (.cells #[.int .u32 (i : Nat), .string sec, .string cC, .string hC, .int .i64 kbg, .int .i64 (t : Nat), .string m1] 114)).setCell (p := ⟨g, 5, none⟩) (.inl (by simp)) (.pointer (some ⟨w6.heap.size, 0, none⟩)))
  have HKR := hide (show w.heap.size < w6.heap.size from HZL.out)
  have HKG := hide (show w.heap.size ≤ w6.heap.size ∧ w6.heap.size ≠ g from ⟨HGO.out, by have := HGL.out; omega⟩)
  obtain ⟨kk, hkk⟩ : ∃ x, x = w6.heap.size := ⟨_, rfl⟩
  rw [← hkk] at HKN HP HM HZ HS HO HKG HKR ⊢
  generalize ((w6.alloc (.cells #[.int .u32 (i : Nat), .string sec, .string cC, .string hC, .int .i64 kbg, .int .i64 (t : Nat), .string m1] 114)).setCell ⟨g, 5, none⟩ (.pointer (some ⟨kk, 0, none⟩))) = w8 at *
  clear hkk HPA p5a fza n11 s0 s1 s2 s3 HX; clear p0 p5 fz k4 k5
  (iterate 2 go_step)
  refine wp_load_mid 29 (.tmp 17) rfl gn 0 rfl [.int .i64 1, .int .u32 (i : Nat), .int .u32 0, .int .u64 0, .string ep, .string sA, .string sB, .string ⟨#[]⟩, .string ⟨#[]⟩, .string ⟨#[]⟩, .string ⟨#[]⟩, .string m1, .string m2] _ (blk_range HM.out) Tryz.underlying29 rfl (by kernel_rfl) ?_
  (iterate 1 go_step)
  first | refine wp_store_mid _ _ _ rfl (w.heap.size) 0 #[.int .i64 1, .int .u32 (i : Nat), .int .u32 0, .int .u64 0, .string ep, .string sA, .string sB, .string ⟨#[]⟩, .string ⟨#[]⟩, .string ⟨#[]⟩, .string ⟨#[]⟩, .string m1, .string m2] rfl rfl (blk_there HZ.out _ rfl) (by kernel_rfl) (by simp [Value.oneCell']) ?_ | refine wpList_store_mid rfl _ _ _ rfl (w.heap.size) 0 #[.int .i64 1, .int .u32 (i : Nat), .int .u32 0, .int .u64 0, .string ep, .string sA, .string sB, .string ⟨#[]⟩, .string ⟨#[]⟩, .string ⟨#[]⟩, .string ⟨#[]⟩, .string m1, .string m2] rfl rfl (blk_there HZ.out _ rfl) (by kernel_rfl) (by simp [Value.oneCell']) ?_
  replace HZ := hide (show Blk (w8.setCells w.heap.size 0 [.int .i64 1, .int .u32 (i : Nat), .int .u32 0, .int .u64 0, .string ep, .string sA, .string sB, .string ⟨#[]⟩, .string ⟨#[]⟩, .string ⟨#[]⟩, .string ⟨#[]⟩, .string m1, .string m2]) _ _ #[.int .i64 1, .int .u32 (i : Nat), .int .u32 0, .int .u64 0, .string ep, .string sA, .string sB, .string ⟨#[]⟩, .string ⟨#[]⟩, .string ⟨#[]⟩, .string ⟨#[]⟩, .string m1, .string m2] from blk_stored HZ.out [.int .i64 1, .int .u32 (i : Nat), .int .u32 0, .int .u64 0, .string ep, .string sA, .string sB, .string ⟨#[]⟩, .string ⟨#[]⟩, .string ⟨#[]⟩, .string ⟨#[]⟩, .string m1, .string m2] rfl)
  replace HP := hide (show Blk (w8.setCells w.heap.size 0 [.int .i64 1, .int .u32 (i : Nat), .int .u32 0, .int .u64 0, .string ep, .string sA, .string sB, .string ⟨#[]⟩, .string ⟨#[]⟩, .string ⟨#[]⟩, .string ⟨#[]⟩, .string m1, .string m2]) _ _ _ from blk_far HP.out (by have := HPL.out; omega) [.int .i64 1, .int .u32 (i : Nat), .int .u32 0, .int .u64 0, .string ep, .string sA, .string sB, .string ⟨#[]⟩, .string ⟨#[]⟩, .string ⟨#[]⟩, .string ⟨#[]⟩, .string m1, .string m2])
  replace HKN := hide (show Blk (w8.setCells w.heap.size 0 [.int .i64 1, .int .u32 (i : Nat), .int .u32 0, .int .u64 0, .string ep, .string sA, .string sB, .string ⟨#[]⟩, .string ⟨#[]⟩, .string ⟨#[]⟩, .string ⟨#[]⟩, .string m1, .string m2]) _ _ _ from blk_far HKN.out (by have := HKR.out; omega) [.int .i64 1, .int .u32 (i : Nat), .int .u32 0, .int .u64 0, .string ep, .string sA, .string sB, .string ⟨#[]⟩, .string ⟨#[]⟩, .string ⟨#[]⟩, .string ⟨#[]⟩, .string m1, .string m2])
  replace HS := hide (show Blk (w8.setCells w.heap.size 0 [.int .i64 1, .int .u32 (i : Nat), .int .u32 0, .int .u64 0, .string ep, .string sA, .string sB, .string ⟨#[]⟩, .string ⟨#[]⟩, .string ⟨#[]⟩, .string ⟨#[]⟩, .string m1, .string m2]) _ _ _ from blk_far HS.out (by have := HSL.out; omega) [.int .i64 1, .int .u32 (i : Nat), .int .u32 0, .int .u64 0, .string ep, .string sA, .string sB, .string ⟨#[]⟩, .string ⟨#[]⟩, .string ⟨#[]⟩, .string ⟨#[]⟩, .string m1, .string m2])
  replace HO := hide (show Only [g, s] w (w8.setCells w.heap.size 0 [.int .i64 1, .int .u32 (i : Nat), .int .u32 0, .int .u64 0, .string ep, .string sA, .string sB, .string ⟨#[]⟩, .string ⟨#[]⟩, .string ⟨#[]⟩, .string ⟨#[]⟩, .string m1, .string m2]) from Only.setCells (.inr (Nat.le_refl _)) 0 [.int .i64 1, .int .u32 (i : Nat), .int .u32 0, .int .u64 0, .string ep, .string sA, .string sB, .string ⟨#[]⟩, .string ⟨#[]⟩, .string ⟨#[]⟩, .string ⟨#[]⟩, .string m1, .string m2] HO.out)
  dsimp only
  generalize (w8.setCells w.heap.size 0 [.int .i64 1, .int .u32 (i : Nat), .int .u32 0, .int .u64 0, .string ep, .string sA, .string sB, .string ⟨#[]⟩, .string ⟨#[]⟩, .string ⟨#[]⟩, .string ⟨#[]⟩, .string m1, .string m2]) = w9 at *
  (repeat go_step)
  refine bodyPost_ret (results_cell_two rfl _ _ w.heap.size 29 _ (0, 0) _ rfl HZ.out Tryz.underlying29 rfl (by kernel_rfl)) rfl ?_
  exact ⟨rfl, ⟨kk, HKG.out.1, HP.out, fun s h => by cases h; exact ⟨HKG.out.2, HKN.out⟩⟩, HS.out, HO.out⟩
end
end Go.Proofs.YtcokjoidpnfjhaaGreatDoor

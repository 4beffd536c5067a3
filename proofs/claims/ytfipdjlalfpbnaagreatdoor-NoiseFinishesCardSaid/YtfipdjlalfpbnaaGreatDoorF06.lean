/-
  Walks and plain words (texts Nf6, Nf5, Ost, Omsg). No condition beyond those that each theorem states.
-/
import Derived.ProofKit
import Derived.OpenShut
import Derived.Deep.Slices
import Derived.Deep.Fields
import Derived.ChangeSame
import Derived.Test.YtfipdjlalfpbnaaGreatDoorP01
import Derived.Test.YtfipdjlalfpbnaaGreatDoorP20
import Derived.Test.YtfipdjlalfpbnaaGreatDoorP32
import Derived.Test.YtfipdjlalfpbnaaGreatDoorF01
import Derived.Test.YtfipdjlalfpbnaaGreatDoorF02
import Derived.Test.YtfipdjlalfpbnaaGreatDoorF03
import Derived.Test.YtfipdjlalfpbnaaGreatDoorF04
import Derived.Test.YtfipdjlalfpbnaaGreatDoorF05
namespace Go.Proofs.YtfipdjlalfpbnaaGreatDoor
section
open Go.RowKit Go.Deep

set_option maxRecDepth 100000 in
set_option maxHeartbeats 12800000 in
theorem nf_R (w : World) (ep c h s q p y4 yc yh : ByteArray) (sd re nn : Nat) (k : Int) (sn r cc : Nat) (x4 x5 x6 x7 x8 x9 x10 x11 x12 : ByteArray) (hep : ep.size ≤ maxLen) (hc : c.size ≤ maxLen) (hh : h.size ≤ maxLen) (hs : s.size ≤ maxLen) (hq : q.size ≤ maxLen) (hp : p.size ≤ maxLen) (hy4 : y4.size ≤ maxLen) (hyc : yc.size ≤ maxLen) (hyh : yh.size ≤ maxLen) (hF : (Mg.mk k sn r cc x4 x5 x6 x7 x8 x9 x10 x11 x12).Fine) (htab : Tab w) (hb : bigB [ep, c, h, p, y4, yc, yh, s, q] = false) (hv : heavyV (Mg.mk k sn r cc x4 x5 x6 x7 x8 x9 x10 x11 x12) 4000 = false) (fk : Int) (fa fb : ByteArray) (hfv : finV ep c h s q sd (Mg.mk k sn r cc x4 x5 x6 x7 x8 x9 x10 x11 x12) = (fk, fa, fb)) (hR : (isV s && isV q) = false) (hav : ansV p y4 yc yh s q = ⟨3, ByteArray.empty, ByteArray.empty, ByteArray.empty, ByteArray.empty⟩) (hz : fk = 3 ∧ fa = ByteArray.empty ∧ fb = ByteArray.empty)  : Calls Tryz.prog 9 #[.agg #[.int .u32 (sd : Nat), .string ep, .string c, .string h], .agg #[.int .u32 (re : Nat), .string p, .int .u64 (nn : Nat), .string y4, .string yc, .string yh], .string s, .string q, .agg #[.int .i64 k, .int .u32 (sn : Nat), .int .u32 (r : Nat), .int .u64 (cc : Nat), .string x4, .string x5, .string x6, .string x7, .string x8, .string x9, .string x10, .string x11, .string x12]] w fun e' w' => e' = .returned (.bool true) ∧ Only [] w w' := by
  have KAW := hide (fun W h => awake10 W h)
  have KBG := hide (fun W G hG => big10_new9 W G hG ep c h p y4 yc yh s q hep hc hh hp hy4 hyc hyh hs hq)
  have KHV := hide (show ∀ W, Calls Tryz.prog 28 #[.agg #[.int .i64 k, .int .u32 (sn : Nat), .int .u32 (r : Nat), .int .u64 (cc : Nat), .string x4, .string x5, .string x6, .string x7, .string x8, .string x9, .string x10, .string x11, .string x12], .int .i64 4000] W (RetB (heavyV (Mg.mk k sn r cc x4 x5 x6 x7 x8 x9 x10 x11 x12) 4000) W) from fun W => Heavy_any (Mg.mk k sn r cc x4 x5 x6 x7 x8 x9 x10 x11 x12) 4000 W)
  unfold RetB at KBG KHV
  have HT := hide htab
  have HST := hide (((Blk.new w 72 #[.int .u32 (sd : Nat), .string ep, .string c, .string h]).alloc (.cells #[.int .u32 (re : Nat), .string p, .int .u64 (nn : Nat), .string y4, .string yc, .string yh] 84)).alloc (.cells #[.int .i64 k, .int .u32 (sn : Nat), .int .u32 (r : Nat), .int .u64 (cc : Nat), .string x4, .string x5, .string x6, .string x7, .string x8, .string x9, .string x10, .string x11, .string x12] 25))
  have HHD := hide ((Blk.new (w.alloc (.cells #[.int .u32 (sd : Nat), .string ep, .string c, .string h] 72)) 84 #[.int .u32 (re : Nat), .string p, .int .u64 (nn : Nat), .string y4, .string yc, .string yh]).alloc (.cells #[.int .i64 k, .int .u32 (sn : Nat), .int .u32 (r : Nat), .int .u64 (cc : Nat), .string x4, .string x5, .string x6, .string x7, .string x8, .string x9, .string x10, .string x11, .string x12] 25))
  have HMB := hide (Blk.new ((w.alloc (.cells #[.int .u32 (sd : Nat), .string ep, .string c, .string h] 72)).alloc (.cells #[.int .u32 (re : Nat), .string p, .int .u64 (nn : Nat), .string y4, .string yc, .string yh] 84)) 25 #[.int .i64 k, .int .u32 (sn : Nat), .int .u32 (r : Nat), .int .u64 (cc : Nat), .string x4, .string x5, .string x6, .string x7, .string x8, .string x9, .string x10, .string x11, .string x12])
  rw [World.size_alloc] at HHD
  rw [World.size_alloc, World.size_alloc] at HMB
  have HO := hide ((((Only.refl [] w).alloc (.cells #[.int .u32 (sd : Nat), .string ep, .string c, .string h] 72)).alloc (.cells #[.int .u32 (re : Nat), .string p, .int .u64 (nn : Nat), .string y4, .string yc, .string yh] 84)).alloc (.cells #[.int .i64 k, .int .u32 (sn : Nat), .int .u32 (r : Nat), .int .u64 (cc : Nat), .string x4, .string x5, .string x6, .string x7, .string x8, .string x9, .string x10, .string x11, .string x12] 25))
  have KF : Hid (∀ W, Tab W → Calls Tryz.prog 48 #[.agg #[.int .u32 (sd : Nat), .string ep, .string c, .string h], .string s, .string q, .agg #[.int .i64 k, .int .u32 (sn : Nat), .int .u32 (r : Nat), .int .u64 (cc : Nat), .string x4, .string x5, .string x6, .string x7, .string x8, .string x9, .string x10, .string x11, .string x12]] W (FinPost fk fa fb W)) := hide (fun W ht => by
      have h1 := Finish_any W ep c h s q sd k sn r cc x4 x5 x6 x7 x8 x9 x10 x11 x12 hep hc hh hs hq hF ht
      rw [hfv] at h1
      exact h1)
  have KA : Hid (∀ W, Tab W → Calls Tryz.prog 44 #[.agg #[.int .u32 (re : Nat), .string p, .int .u64 (nn : Nat), .string y4, .string yc, .string yh], .string s, .string q, .int .u32 4] W (AnsPost 3 #[.int .i64 0, .int .u32 0, .int .u32 0, .int .u64 0, .string ⟨#[]⟩, .string ⟨#[]⟩, .string ⟨#[]⟩, .string ⟨#[]⟩, .string ⟨#[]⟩, .string ⟨#[]⟩, .string ⟨#[]⟩, .string ⟨#[]⟩, .string ⟨#[]⟩] #[.string ⟨#[]⟩, .string ⟨#[]⟩] W)) := hide (fun W ht => by
      have h1 := Answer_any W re nn p y4 yc yh s q 4 hp hy4 hyc hyh hs hq ht
      rw [hav] at h1
      exact h1)
  unfold FinPost at KF
  unfold AnsPost at KA
  rw [hb] at KBG
  rw [hv] at KHV
  have KIs := hide (isv hs)
  have KIq := hide (isv hq)
  have KIe := hide (isv hep)
  have KIc := hide (isv hc)
  have KIh := hide (isv hh)
  have KYc := hide (isv hyc)
  have KYh := hide (isv hyh)
  have KRT := hide (isr hF)
  have KR4 := hide (fun W => readR_cells W x4 hF.x4)
  have KRp := hide (fun W => readR_cells W p hp)
  have KRy := hide (fun W => readR_cells W y4 hy4)
  have hfp := node_field (whatV p).1
  have hfy := node_field (whatV y4).1
  have hzm : ∀ W, (binOp .eql 25 (.agg #[.int .i64 0, .int .u32 0, .int .u32 0, .int .u64 0, .string ⟨#[]⟩, .string ⟨#[]⟩, .string ⟨#[]⟩, .string ⟨#[]⟩, .string ⟨#[]⟩, .string ⟨#[]⟩, .string ⟨#[]⟩, .string ⟨#[]⟩, .string ⟨#[]⟩]) (.agg #[.int .i64 0, .int .u32 0, .int .u32 0, .int .u64 0, .string ⟨#[]⟩, .string ⟨#[]⟩, .string ⟨#[]⟩, .string ⟨#[]⟩, .string ⟨#[]⟩, .string ⟨#[]⟩, .string ⟨#[]⟩, .string ⟨#[]⟩, .string ⟨#[]⟩])).run Tryz.prog W = .ok (.bool true) W := fun W => msg_same (Mg.mk 0 0 0 0 ⟨#[]⟩ ⟨#[]⟩ ⟨#[]⟩ ⟨#[]⟩ ⟨#[]⟩ ⟨#[]⟩ ⟨#[]⟩ ⟨#[]⟩ ⟨#[]⟩) W
  have hzk : ∀ W, (binOp .eql 43 (.agg #[.string ⟨#[]⟩, .string ⟨#[]⟩]) (.agg #[.string ⟨#[]⟩, .string ⟨#[]⟩])).run Tryz.prog W = .ok (.bool true) W := fun W => keys_same ⟨#[]⟩ ⟨#[]⟩ W
  obtain ⟨rfl, rfl, rfl⟩ := hz
  have hf4 := node_field (whatV x4).1
  have hzz : ∀ W, (binOp .neq 43 (.agg #[.string ByteArray.empty, .string ByteArray.empty]) (.agg #[.string ⟨#[]⟩, .string ⟨#[]⟩])).run Tryz.prog W = .ok (.bool false) W := fun W => keys_diff ⟨#[]⟩ ⟨#[]⟩ W
  clear hep hc hh hs hq hp hy4 hyc hyh hF htab hb hv hfv hav  
  go_enter Tryz.func9, Tryz.ntmps9
  go_upto_region 1 with fail
  generalize (((w.alloc (.cells #[.int .u32 (sd : Nat), .string ep, .string c, .string h] 72)).alloc (.cells #[.int .u32 (re : Nat), .string p, .int .u64 (nn : Nat), .string y4, .string yc, .string yh] 84)).alloc (.cells #[.int .i64 k, .int .u32 (sn : Nat), .int .u32 (r : Nat), .int .u64 (cc : Nat), .string x4, .string x5, .string x6, .string x7, .string x8, .string x9, .string x10, .string x11, .string x12] 25)) = v0 at *
  go_upto_region 5 with (first
    | (go_at_call 36; refine (KAW.out _ (HT.out.only HO.out (by simp))).mono ?_; rintro e2 wa ⟨rfl, ho⟩; replace HST := hon HST ho; replace HHD := hon HHD ho; replace HMB := hon HMB ho; replace HO := htr HO ho; clear ho; obtain ⟨b0, b1, b2, b3⟩ := cells4 HST.out; obtain ⟨d0, d1, d2, d3, d4, d5⟩ := cells6 HHD.out; obtain ⟨m0, m1, m2, m3, m4, m5, m6, m7, m8, m9, m10, m11, m12⟩ := cells13 HMB.out)
    | (go_at_call 37; (with_reducible refine (KBG.out _ _ rfl).mono ?_); rintro e2 wg ⟨rfl, ho⟩; replace HST := hon HST ho; replace HHD := hon HHD ho; replace HMB := hon HMB ho; replace HO := htr HO ho; clear ho; (try clear b0 b1 b2 b3 d0 d1 d2 d3 d4 d5 m0 m1 m2 m3 m4 m5 m6 m7 m8 m9 m10 m11 m12); obtain ⟨b0, b1, b2, b3⟩ := cells4 HST.out; obtain ⟨d0, d1, d2, d3, d4, d5⟩ := cells6 HHD.out; obtain ⟨m0, m1, m2, m3, m4, m5, m6, m7, m8, m9, m10, m11, m12⟩ := cells13 HMB.out)
    | (go_at_call 28; (with_reducible refine (KHV.out _).mono ?_); rintro e2 wh ⟨rfl, ho⟩; replace HST := hon HST ho; replace HHD := hon HHD ho; replace HMB := hon HMB ho; replace HO := htr HO ho; clear ho; (try clear b0 b1 b2 b3 d0 d1 d2 d3 d4 d5 m0 m1 m2 m3 m4 m5 m6 m7 m8 m9 m10 m11 m12); obtain ⟨b0, b1, b2, b3⟩ := cells4 HST.out; obtain ⟨d0, d1, d2, d3, d4, d5⟩ := cells6 HHD.out; obtain ⟨m0, m1, m2, m3, m4, m5, m6, m7, m8, m9, m10, m11, m12⟩ := cells13 HMB.out))
  go_upto_region 6 with (go_at_call 48; refine (KF.out _ (HT.out.only HO.out (by simp))).mono ?_; rintro e2 wf ⟨rfl, ho⟩; replace HST := hon HST ho; replace HHD := hon HHD ho; replace HMB := hon HMB ho; replace HO := htr HO ho; clear ho KF b0 b1 b2 b3 d0 d1 d2 d3 d4 d5 m0 m1 m2 m3 m4 m5 m6 m7 m8 m9 m10 m11 m12)
  have HK := hide (Blk.new wf 43 #[.string ByteArray.empty, .string ByteArray.empty])
  replace HST := hide (HST.out.alloc (.cells #[.string ByteArray.empty, .string ByteArray.empty] 43))
  replace HHD := hide (HHD.out.alloc (.cells #[.string ByteArray.empty, .string ByteArray.empty] 43))
  replace HMB := hide (HMB.out.alloc (.cells #[.string ByteArray.empty, .string ByteArray.empty] 43))
  replace HO := hide (HO.out.alloc (.cells #[.string ByteArray.empty, .string ByteArray.empty] 43))
  generalize (wf.alloc (.cells #[.string ByteArray.empty, .string ByteArray.empty] 43)) = w1 at *
  obtain ⟨gk, hgk⟩ : ∃ g, g = wf.heap.size := ⟨_, rfl⟩
  rw [← hgk] at HK ⊢
  clear hgk
  obtain ⟨d0, d1, d2, d3, d4, d5⟩ := cells6 HHD.out
  go_upto_region 7 with (go_at_call 44; refine (KA.out _ (HT.out.only HO.out (by simp))).mono ?_; rintro e2 wn ⟨rfl, ho⟩; replace HST := hon HST ho; replace HHD := hon HHD ho; replace HMB := hon HMB ho; replace HK := hon HK ho; replace HO := htr HO ho; clear ho KA d0 d1 d2 d3 d4 d5)
  have HN := hide (Blk.new wn 25 #[.int .i64 0, .int .u32 0, .int .u32 0, .int .u64 0, .string ⟨#[]⟩, .string ⟨#[]⟩, .string ⟨#[]⟩, .string ⟨#[]⟩, .string ⟨#[]⟩, .string ⟨#[]⟩, .string ⟨#[]⟩, .string ⟨#[]⟩, .string ⟨#[]⟩])
  have HL := hide (Blk.new (wn.alloc (.cells #[.int .i64 0, .int .u32 0, .int .u32 0, .int .u64 0, .string ⟨#[]⟩, .string ⟨#[]⟩, .string ⟨#[]⟩, .string ⟨#[]⟩, .string ⟨#[]⟩, .string ⟨#[]⟩, .string ⟨#[]⟩, .string ⟨#[]⟩, .string ⟨#[]⟩] 25)) 43 #[.string ⟨#[]⟩, .string ⟨#[]⟩])
  replace HST := hide (HST.out.alloc (.cells #[.int .i64 0, .int .u32 0, .int .u32 0, .int .u64 0, .string ⟨#[]⟩, .string ⟨#[]⟩, .string ⟨#[]⟩, .string ⟨#[]⟩, .string ⟨#[]⟩, .string ⟨#[]⟩, .string ⟨#[]⟩, .string ⟨#[]⟩, .string ⟨#[]⟩] 25))
  replace HHD := hide (HHD.out.alloc (.cells #[.int .i64 0, .int .u32 0, .int .u32 0, .int .u64 0, .string ⟨#[]⟩, .string ⟨#[]⟩, .string ⟨#[]⟩, .string ⟨#[]⟩, .string ⟨#[]⟩, .string ⟨#[]⟩, .string ⟨#[]⟩, .string ⟨#[]⟩, .string ⟨#[]⟩] 25))
  replace HMB := hide (HMB.out.alloc (.cells #[.int .i64 0, .int .u32 0, .int .u32 0, .int .u64 0, .string ⟨#[]⟩, .string ⟨#[]⟩, .string ⟨#[]⟩, .string ⟨#[]⟩, .string ⟨#[]⟩, .string ⟨#[]⟩, .string ⟨#[]⟩, .string ⟨#[]⟩, .string ⟨#[]⟩] 25))
  replace HK := hide (HK.out.alloc (.cells #[.int .i64 0, .int .u32 0, .int .u32 0, .int .u64 0, .string ⟨#[]⟩, .string ⟨#[]⟩, .string ⟨#[]⟩, .string ⟨#[]⟩, .string ⟨#[]⟩, .string ⟨#[]⟩, .string ⟨#[]⟩, .string ⟨#[]⟩, .string ⟨#[]⟩] 25))
  replace HO := hide (HO.out.alloc (.cells #[.int .i64 0, .int .u32 0, .int .u32 0, .int .u64 0, .string ⟨#[]⟩, .string ⟨#[]⟩, .string ⟨#[]⟩, .string ⟨#[]⟩, .string ⟨#[]⟩, .string ⟨#[]⟩, .string ⟨#[]⟩, .string ⟨#[]⟩, .string ⟨#[]⟩] 25))
  replace HN := hide (HN.out.alloc (.cells #[.string ⟨#[]⟩, .string ⟨#[]⟩] 43))
  replace HST := hide (HST.out.alloc (.cells #[.string ⟨#[]⟩, .string ⟨#[]⟩] 43))
  replace HHD := hide (HHD.out.alloc (.cells #[.string ⟨#[]⟩, .string ⟨#[]⟩] 43))
  replace HMB := hide (HMB.out.alloc (.cells #[.string ⟨#[]⟩, .string ⟨#[]⟩] 43))
  replace HK := hide (HK.out.alloc (.cells #[.string ⟨#[]⟩, .string ⟨#[]⟩] 43))
  replace HO := hide (HO.out.alloc (.cells #[.string ⟨#[]⟩, .string ⟨#[]⟩] 43))
  rw [World.size_alloc] at HL
  generalize ((wn.alloc (.cells #[.int .i64 0, .int .u32 0, .int .u32 0, .int .u64 0, .string ⟨#[]⟩, .string ⟨#[]⟩, .string ⟨#[]⟩, .string ⟨#[]⟩, .string ⟨#[]⟩, .string ⟨#[]⟩, .string ⟨#[]⟩, .string ⟨#[]⟩, .string ⟨#[]⟩] 25)).alloc (.cells #[.string ⟨#[]⟩, .string ⟨#[]⟩] 43)) = w2 at *
  obtain ⟨gn, hgn⟩ : ∃ g, g = wn.heap.size := ⟨_, rfl⟩
  rw [← hgn] at HN HL ⊢
  clear hgn
  clear HT
  generalize isV s = bs at *
  generalize isV q = bq at *
  generalize isV ep = be at *
  generalize isV c = bc at *
  generalize isV h = bh at *
  generalize rightM (Mg.mk k sn r cc x4 x5 x6 x7 x8 x9 x10 x11 x12) = br at *
  generalize (whatV x4).1 = kx at *
  generalize (whatV x4).2.1 = nx at *
  have HRR := hide hR
  clear hR
  go_upto_region 7 with fail
  go_cut [16] (fun cv w' => cv = .bool false ∧ Hid (Only [] w2 w'))
  case first =>
    as_aux_lemma =>
      have HP := hide (Only.refl [] w2)
      cases bs
      · go_wp2_with (first
        | (go_at_call 18; (with_reducible refine (KIs.out _).mono ?_); rintro e2 wi ⟨rfl, ho⟩; replace HST := hon HST ho; replace HHD := hon HHD ho; replace HMB := hon HMB ho; replace HK := hon HK ho; replace HN := hon HN ho; replace HL := hon HL ho; replace HO := htr HO ho; replace HP := htr HP ho; clear ho))
        go_meet
        exact ⟨rfl, hide HP.out⟩
      · cases bq
        · go_wp2_with (first
          | (go_at_call 18; (with_reducible refine (KIs.out _).mono ?_); rintro e2 wi ⟨rfl, ho⟩; replace HST := hon HST ho; replace HHD := hon HHD ho; replace HMB := hon HMB ho; replace HK := hon HK ho; replace HN := hon HN ho; replace HL := hon HL ho; replace HO := htr HO ho; replace HP := htr HP ho; clear ho)
          | (go_at_call 18; (with_reducible refine (KIq.out _).mono ?_); rintro e2 wi ⟨rfl, ho⟩; replace HST := hon HST ho; replace HHD := hon HHD ho; replace HMB := hon HMB ho; replace HK := hon HK ho; replace HN := hon HN ho; replace HL := hon HL ho; replace HO := htr HO ho; replace HP := htr HP ho; clear ho))
          go_meet
          exact ⟨rfl, hide HP.out⟩
        · exact absurd HRR.out (by decide)
  obtain ⟨rfl, HO2⟩ := hcut
  replace HST := hon HST HO2.out; replace HHD := hon HHD HO2.out; replace HMB := hon HMB HO2.out; replace HK := hon HK HO2.out; replace HN := hon HN HO2.out; replace HL := hon HL HO2.out; replace HO := htr HO HO2.out
  clear HO2
  rename World => wc
  go_upto_region 9 with fail
  go_cut [103] (fun cv w' => cv = .bool true ∧ Hid (Only [] wc w'))
  case first =>
    as_aux_lemma =>
      have HP := hide (Only.refl [] wc)
      obtain ⟨b0, b1, b2, b3⟩ := cells4 HST.out
      obtain ⟨m0, m1, m2, m3, m4, m5, m6, m7, m8, m9, m10, m11, m12⟩ := cells13 HMB.out
      go_wp2_with fail
      go_meet
      exact ⟨rfl, hide HP.out⟩
  obtain ⟨rfl, HO2⟩ := hcut
  replace HST := hon HST HO2.out; replace HHD := hon HHD HO2.out; replace HMB := hon HMB HO2.out; replace HK := hon HK HO2.out; replace HN := hon HN HO2.out; replace HL := hon HL HO2.out; replace HO := htr HO HO2.out
  clear HO2
  rename World => wc
  go_upto_region 18 with fail
  go_cut [151] (fun cv w' => cv = .bool false ∧ Hid (Only [] wc w'))
  case first =>
    as_aux_lemma =>
      have HP := hide (Only.refl [] wc)
      obtain ⟨x0, x1⟩ := cells2 HK.out
      go_wp2_with fail
      go_meet
      exact ⟨rfl, hide HP.out⟩
  obtain ⟨rfl, HO2⟩ := hcut
  replace HST := hon HST HO2.out; replace HHD := hon HHD HO2.out; replace HMB := hon HMB HO2.out; replace HK := hon HK HO2.out; replace HN := hon HN HO2.out; replace HL := hon HL HO2.out; replace HO := htr HO HO2.out
  clear HO2
  rename World => wc
  have HP := hide (Only.refl [] wc)
  obtain ⟨d0, d1, d2, d3, d4, d5⟩ := cells6 HHD.out
  obtain ⟨a0, a1, a2, a3, a4, a5, a6, a7, a8, a9, a10, a11, a12⟩ := cells13 HN.out
  obtain ⟨k0, k1⟩ := cells2 HL.out
  go_wp2_with fail
  go_ret
  exact ⟨rfl, HO.out⟩
end
section
open Go.RowKit Go.Deep

theorem nf_end (ep c h s q : ByteArray) (sd : Nat) (k : Int) (sn r cc : Nat) (x4 x5 x6 x7 x8 x9 x10 x11 x12 : ByteArray) {p y4 yc yh : ByteArray} (hz : ∀ x ∈ [ep, c, h, p, y4, yc, yh, s, q], x.size ≤ 200) (hv : heavyV (Mg.mk k sn r cc x4 x5 x6 x7 x8 x9 x10 x11 x12) 4000 = false) (gs : isV s = true) (gq : isV q = true) (ge : isV ep = true) (gc : isV c = true) (gh : isV h = true) (gr : rightM (Mg.mk k sn r cc x4 x5 x6 x7 x8 x9 x10 x11 x12) = true) (gk : k = 2) (g4 : (whatV x4).1 = 5) :
    ∃ uA uB la ke wi em ka kb, EndE c h x4 uA uB q la ke wi em ka kb ∧ agreeT ep x4 = uA ∧ agreeT s x4 = uB ∧ EndT la ke wi em ka kb ∧ finV ep c h s q sd (Mg.mk k sn r cc x4 x5 x6 x7 x8 x9 x10 x11 x12) = if r ≠ sd then (6, ByteArray.empty, ByteArray.empty) else if x7 ≠ em then (8, ByteArray.empty, ByteArray.empty) else (0, kb, ka) := by
  have ts : Tn 200 s := ⟨gs, hz s (by simp)⟩
  have tq : Tn 200 q := ⟨gq, hz q (by simp)⟩
  have te : Tn 200 ep := ⟨ge, hz ep (by simp)⟩
  have tc : Tn 200 c := ⟨gc, hz c (by simp)⟩
  have th : Tn 200 h := ⟨gh, hz h (by simp)⟩
  have k4 : kindT x4 = 5 := by rw [what_kind]; exact g4
  obtain ⟨a, ea, ta, sa, _⟩ := pub_is k4
  have s4 : x4.size ≤ 4000 := by
    have hH := hv
    rw [heavy_right gr, decide_eq_false_iff_not] at hH
    simp only at hH
    omega
  have taa : Tn 4000 a := ⟨ta, Nat.le_trans sa s4⟩
  have t4 : Tn 4025 x4 := by rw [ea]; exact (tn_pub taa (by omega)).mono (by omega)
  have t1 : Tn 4226 (agreeT ep x4) := by rw [ea]; exact (tn_agree te taa (by omega)).mono (by omega)
  have t2 : Tn 4226 (agreeT s x4) := by rw [ea]; exact (tn_agree ts taa (by omega)).mono (by omega)
  obtain ⟨la, ke, wi, em, ka, kb, E⟩ := endE c h x4 (agreeT ep x4) (agreeT s x4) q
  have T := E.sizes tc th t4 t1 t2 tq (by omega)
  exact ⟨agreeT ep x4, agreeT s x4, la, ke, wi, em, ka, kb, E, rfl, rfl, T, fin_is (m := (Mg.mk k sn r cc x4 x5 x6 x7 x8 x9 x10 x11 x12)) E T rfl rfl te tc th ts tq gr gk k4⟩
theorem nf_law (w : World) (ep c h s q p y4 yc yh : ByteArray) (sd re nn : Nat) (k : Int) (sn r cc : Nat) (x4 x5 x6 x7 x8 x9 x10 x11 x12 : ByteArray) (hep : ep.size ≤ maxLen) (hc : c.size ≤ maxLen) (hh : h.size ≤ maxLen) (hs : s.size ≤ maxLen) (hq : q.size ≤ maxLen) (hp : p.size ≤ maxLen) (hy4 : y4.size ≤ maxLen) (hyc : yc.size ≤ maxLen) (hyh : yh.size ≤ maxLen) (hF : (Mg.mk k sn r cc x4 x5 x6 x7 x8 x9 x10 x11 x12).Fine) (hre : re < 4294967296) (htab : Tab w) : Calls Tryz.prog 9 #[.agg #[.int .u32 (sd : Nat), .string ep, .string c, .string h], .agg #[.int .u32 (re : Nat), .string p, .int .u64 (nn : Nat), .string y4, .string yc, .string yh], .string s, .string q, .agg #[.int .i64 k, .int .u32 (sn : Nat), .int .u32 (r : Nat), .int .u64 (cc : Nat), .string x4, .string x5, .string x6, .string x7, .string x8, .string x9, .string x10, .string x11, .string x12]] w fun e' w' => e' = .returned (.bool true) ∧ Only [] w w' := by
  cases hb : bigB [ep, c, h, p, y4, yc, yh, s, q] with
  | true => exact nf_big w ep c h s q p y4 yc yh sd re nn k sn r cc x4 x5 x6 x7 x8 x9 x10 x11 x12 hep hc hh hs hq hp hy4 hyc hyh hF htab hb
  | false =>
    cases hv : heavyV (Mg.mk k sn r cc x4 x5 x6 x7 x8 x9 x10 x11 x12) 4000 with
    | true => exact nf_heavy w ep c h s q p y4 yc yh sd re nn k sn r cc x4 x5 x6 x7 x8 x9 x10 x11 x12 hep hc hh hs hq hp hy4 hyc hyh hF htab hb hv
    | false =>
      have hz := big_no hb
      have ffin : ((isV s && isV q) = false ∨ isV ep = false ∨ isV c = false ∨ isV h = false ∨ rightM (Mg.mk k sn r cc x4 x5 x6 x7 x8 x9 x10 x11 x12) = false ∨ k ≠ 2 ∨ (whatV x4).1 ≠ 5) → finV ep c h s q sd (Mg.mk k sn r cc x4 x5 x6 x7 x8 x9 x10 x11 x12) = (3, ByteArray.empty, ByteArray.empty) := fun hx => fin_form (by
        rcases hx with h1 | h1 | h1 | h1 | h1 | h1 | h1
        · rw [Bool.and_eq_false_iff] at h1
          rcases h1 with h1 | h1
          · exact .inl h1
          · exact .inr (.inl h1)
        · exact .inr (.inr (.inl h1))
        · exact .inr (.inr (.inr (.inl h1)))
        · exact .inr (.inr (.inr (.inr (.inl h1))))
        · exact .inr (.inr (.inr (.inr (.inr (.inl h1)))))
        · exact .inr (.inr (.inr (.inr (.inr (.inr (.inl h1))))))
        · exact .inr (.inr (.inr (.inr (.inr (.inr (.inr (by rw [what_kind]; exact h1))))))))
      have fans : ((isV s && isV q) = false ∨ (whatV p).1 ≠ 5 ∨ (whatV y4).1 ≠ 5 ∨ isV yc = false ∨ isV yh = false) → ansV p y4 yc yh s q = ⟨3, ByteArray.empty, ByteArray.empty, ByteArray.empty, ByteArray.empty⟩ := fun hx => ans_form (by
        rcases hx with h1 | h1 | h1 | h1 | h1
        · rw [Bool.and_eq_false_iff] at h1
          rcases h1 with h1 | h1
          · exact .inl h1
          · exact .inr (.inl h1)
        · exact .inr (.inr (.inl (by rw [what_kind]; exact h1)))
        · exact .inr (.inr (.inr (.inl (by rw [what_kind]; exact h1))))
        · exact .inr (.inr (.inr (.inr (.inl h1))))
        · exact .inr (.inr (.inr (.inr (.inr h1)))))
      cases hR : (isV s && isV q) with
      | false => exact nf_R w ep c h s q p y4 yc yh sd re nn k sn r cc x4 x5 x6 x7 x8 x9 x10 x11 x12 hep hc hh hs hq hp hy4 hyc hyh hF htab hb hv _ _ _ (ffin (.inl hR)) hR (fans (.inl hR)) ⟨rfl, rfl, rfl⟩
      | true =>
        have gs : isV s = true := (Bool.and_eq_true _ _ ▸ hR : isV s = true ∧ isV q = true).1
        have gq : isV q = true := (Bool.and_eq_true _ _ ▸ hR : isV s = true ∧ isV q = true).2
        have hG : (isV ep = true ∧ isV c = true ∧ isV h = true ∧ rightM (Mg.mk k sn r cc x4 x5 x6 x7 x8 x9 x10 x11 x12) = true ∧ k = 2 ∧ (whatV x4).1 = 5) ∨ (isV ep = false ∨ isV c = false ∨ isV h = false ∨ rightM (Mg.mk k sn r cc x4 x5 x6 x7 x8 x9 x10 x11 x12) = false ∨ k ≠ 2 ∨ (whatV x4).1 ≠ 5) := by
          cases isV ep <;> cases isV c <;> cases isV h <;> cases rightM (Mg.mk k sn r cc x4 x5 x6 x7 x8 x9 x10 x11 x12) <;> by_cases h1 : k = 2 <;> by_cases h2 : (whatV x4).1 = 5 <;> simp [h1, h2]
        have hY : ((whatV p).1 = 5 ∧ (whatV y4).1 = 5 ∧ isV yc = true ∧ isV yh = true) ∨ ((whatV p).1 ≠ 5 ∨ (whatV y4).1 ≠ 5 ∨ isV yc = false ∨ isV yh = false) := by
          cases isV yc <;> cases isV yh <;> by_cases h1 : (whatV p).1 = 5 <;> by_cases h2 : (whatV y4).1 = 5 <;> simp [h1, h2]
        have ts : Tn 200 s := ⟨gs, hz s (by simp)⟩
        have tq : Tn 200 q := ⟨gq, hz q (by simp)⟩
        rcases hY with ⟨gp, gy, gc, gh⟩ | hX
        · have kp : kindT p = 5 := by rw [what_kind]; exact gp
          have ky : kindT y4 = 5 := by rw [what_kind]; exact gy
          obtain ⟨p1, ep1, tp1, sp1, _⟩ := pub_is kp
          obtain ⟨y1, ey1, ty1, sy1, _⟩ := pub_is ky
          have tp : Tn 200 p1 := ⟨tp1, Nat.le_trans sp1 (hz p (by simp))⟩
          have ty : Tn 200 y1 := ⟨ty1, Nat.le_trans sy1 (hz y4 (by simp))⟩
          have tyc : Tn 200 yc := ⟨gc, hz yc (by simp)⟩
          have tyh : Tn 200 yh := ⟨gh, hz yh (by simp)⟩
          have t1 : Tn 426 (agreeT s y4) := by rw [ey1]; exact (tn_agree ts ty (by omega)).mono (by omega)
          have t2 : Tn 426 (agreeT s p) := by rw [ep1]; exact (tn_agree ts tp (by omega)).mono (by omega)
          have t3 : Tn 225 (pubT s) := (tn_pub ts (by omega)).mono (by omega)
          obtain ⟨la, ke, wi, em2, ka2, kb2, E2⟩ := endE yc yh (pubT s) (agreeT s y4) (agreeT s p) q
          have T2 := E2.sizes tyc tyh t3 t1 t2 tq (by omega)
          have hav := ans_fine E2 T2 rfl rfl rfl ts tq kp ky tyc tyh
          have t3' : Tn 60000 (pubT s) := t3.mono (by omega)
          rcases hG with ⟨ge, gc1, gh1, gr, gk, g4⟩ | hF2
          · obtain ⟨uA, uB, la', ke', wi', em, ka, kb, E, e1, e2, T, hfv⟩ := nf_end ep c h s q sd k sn r cc x4 x5 x6 x7 x8 x9 x10 x11 x12 hz hv gs gq ge gc1 gh1 gr gk g4
            obtain ⟨⟨fk, fa, fb⟩, hf0⟩ : ∃ z, finV ep c h s q sd (Mg.mk k sn r cc x4 x5 x6 x7 x8 x9 x10 x11 x12) = z := ⟨_, rfl⟩
            exact nf_GY w ep c h s q p y4 yc yh sd re nn k sn r cc x4 x5 x6 x7 x8 x9 x10 x11 x12 hep hc hh hs hq hp hy4 hyc hyh hF htab hb hv fk fa fb hf0 gs gq (pubT s) em2 ka2 kb2 hav t3' (T2.tem.mono (by omega)) (T2.tka.mono (by omega)) (T2.tkb.mono (by omega)) T2.tne gp gy gc gh hre ge gc1 gh1 gr gk g4 uA uB la' ke' wi' em ka kb E e1 e2 (hf0.symm.trans hfv)
          · exact nf_FY w ep c h s q p y4 yc yh sd re nn k sn r cc x4 x5 x6 x7 x8 x9 x10 x11 x12 hep hc hh hs hq hp hy4 hyc hyh hF htab hb hv _ _ _ (ffin (.inr hF2)) gs gq (pubT s) em2 ka2 kb2 hav t3' (T2.tem.mono (by omega)) (T2.tka.mono (by omega)) (T2.tkb.mono (by omega)) T2.tne gp gy gc gh hre ⟨rfl, rfl, rfl⟩ hF2
        · rcases hG with ⟨ge, gc1, gh1, gr, gk, g4⟩ | hF2
          · obtain ⟨uA, uB, la', ke', wi', em, ka, kb, E, e1, e2, T, hfv⟩ := nf_end ep c h s q sd k sn r cc x4 x5 x6 x7 x8 x9 x10 x11 x12 hz hv gs gq ge gc1 gh1 gr gk g4
            obtain ⟨⟨fk, fa, fb⟩, hf0⟩ : ∃ z, finV ep c h s q sd (Mg.mk k sn r cc x4 x5 x6 x7 x8 x9 x10 x11 x12) = z := ⟨_, rfl⟩
            exact nf_GX w ep c h s q p y4 yc yh sd re nn k sn r cc x4 x5 x6 x7 x8 x9 x10 x11 x12 hep hc hh hs hq hp hy4 hyc hyh hF htab hb hv fk fa fb hf0 gs gq (fans (.inr hX)) hX ge gc1 gh1 gr gk g4 uA uB la' ke' wi' em ka kb E e1 e2 (hf0.symm.trans hfv)
          · exact nf_FX w ep c h s q p y4 yc yh sd re nn k sn r cc x4 x5 x6 x7 x8 x9 x10 x11 x12 hep hc hh hs hq hp hy4 hyc hyh hF htab hb hv _ _ _ (ffin (.inr hF2)) gs gq (fans (.inr hX)) hX ⟨rfl, rfl, rfl⟩ hF2
theorem noiseFinishes_law (sd : Nat) (ep c h : ByteArray) (hsd : sd < 4294967296) (hep : ep.size ≤ maxLen) (hc : c.size ≤ maxLen) (hh : h.size ≤ maxLen) (re : Nat) (p : ByteArray) (nn : Nat) (y4 yc yh : ByteArray) (hre : re < 4294967296) (hp : p.size ≤ maxLen) (hnn : nn < 18446744073709551616) (hy4 : y4.size ≤ maxLen) (hyc : yc.size ≤ maxLen) (hyh : yh.size ≤ maxLen)
    (s : ByteArray) (hs : s.size ≤ maxLen) (q : ByteArray) (hq : q.size ≤ maxLen) (m : Mg) (hF : m.Fine) (hk : -9223372036854775808 ≤ m.k) (hk2 : m.k ≤ 9223372036854775807) {w : World} (htab : Tab w) :
    Calls Tryz.prog 9 #[.agg #[.int .u32 (sd : Nat), .string ep, .string c, .string h], .agg #[.int .u32 (re : Nat), .string p, .int .u64 (nn : Nat), .string y4, .string yc, .string yh], .string s, .string q, .agg m.cells] w fun e' w' => e' = .returned (.bool true) ∧ Only [] w w' := by
  obtain ⟨k, sn, r, cc, x4, x5, x6, x7, x8, x9, x10, x11, x12⟩ := m
  exact nf_law w ep c h s q p y4 yc yh sd re nn k sn r cc x4 x5 x6 x7 x8 x9 x10 x11 x12 hep hc hh hs hq hp hy4 hyc hyh hF hre htab
end
section
open Go.RowKit Go.Deep Go.ChangeShapes Go.WideShapes Go.ChangeAt

theorem olist_4 {α : Type} {l : List α} (h : l.length = 4) : ∃ a0 a1 a2 a3, l = [a0, a1, a2, a3] := by
  match l, h with
  | [a0, a1, a2, a3], _ => exact ⟨a0, a1, a2, a3, rfl⟩
set_option maxRecDepth 100000 in
set_option maxHeartbeats 12800000 in
theorem open_start {H : Type} {enc : TypeId × Value → H} {w : World} {base : Nat} {spare : Nat → Bool} {held : Bool} {r : Reach} {b0 : Nat} {v : Value} {d : DataW H} {ps : List MemPlace} (hv : Value.okWide Tryz.prog w r b0 72 v) (h : DataW.Trod enc Tryz.prog w base spare held 72 v d ps) :
    ∃ (x0 : Nat) (x1 : ByteArray) (x2 : ByteArray) (x3 : ByteArray), v = .agg #[.int .u32 (x0 : Nat), .string x1, .string x2, .string x3] ∧ x0 < 4294967296 ∧ x1.size ≤ maxLen ∧ x2.size ≤ maxLen ∧ x3.size ≤ maxLen := by
  obtain ⟨cs, rfl, hcs⟩ := okWide_struct Tryz.underlying72 hv
  obtain ⟨fuel, hf⟩ := h
  obtain ⟨xs, m, _, _, hl, hx, hf⟩ := DataW.trod_struct Tryz.underlying72 hf
  rw [show Tryz.prog.cellsOf 72 = 4 from by kernel_rfl] at hl
  obtain ⟨a0, a1, a2, a3, hc⟩ := olist_4 hl
  rw [hc] at hf
  have h0 := hf 0 _ rfl
  have h1 := hf 1 _ rfl
  have h2 := hf 2 _ rfl
  have h3 := hf 3 _ rfl
  simp only [List.getElem_toArray, List.getElem_cons_zero, List.getElem_cons_succ, show Tryz.prog.cellsOf 22 = 1 from by kernel_rfl, show Tryz.prog.cellsOf 23 = 1 from by kernel_rfl, show Tryz.prog.cellsOf 9 = 1 from by kernel_rfl] at h0 h1 h2 h3
  rw [List.getElem?_eq_getElem (by rw [hx]; decide)] at h0 h1 h2 h3
  obtain ⟨n0, z0, _, w0⟩ := DataW.trod_int Tryz.underlying22 h0
  obtain ⟨n1, z1, _, w1⟩ := DataW.trod_string Tryz.underlying9 h1
  obtain ⟨n2, z2, _, w2⟩ := DataW.trod_string Tryz.underlying9 h2
  obtain ⟨n3, z3, _, w3⟩ := DataW.trod_string Tryz.underlying9 h3
  simp at z0 z1 z2 z3
  obtain ⟨m0, rfl, l0⟩ := wf_u32 w0
  refine ⟨m0, n1, n2, n3, ?_, l0, w1, w2, w3⟩
  have : cs = #[a0, a1, a2, a3] := by
    have : cs.toList = [a0, a1, a2, a3] := by simpa [Value.cells] using hc
    rw [← Array.toArray_toList (xs := cs), this]
  rw [this, z0, z1, z2, z3]
theorem olist_6 {α : Type} {l : List α} (h : l.length = 6) : ∃ a0 a1 a2 a3 a4 a5, l = [a0, a1, a2, a3, a4, a5] := by
  match l, h with
  | [a0, a1, a2, a3, a4, a5], _ => exact ⟨a0, a1, a2, a3, a4, a5, rfl⟩
set_option maxRecDepth 100000 in
set_option maxHeartbeats 12800000 in
theorem open_heard {H : Type} {enc : TypeId × Value → H} {w : World} {base : Nat} {spare : Nat → Bool} {held : Bool} {r : Reach} {b0 : Nat} {v : Value} {d : DataW H} {ps : List MemPlace} (hv : Value.okWide Tryz.prog w r b0 84 v) (h : DataW.Trod enc Tryz.prog w base spare held 84 v d ps) :
    ∃ (x0 : Nat) (x1 : ByteArray) (x2 : Nat) (x3 : ByteArray) (x4 : ByteArray) (x5 : ByteArray), v = .agg #[.int .u32 (x0 : Nat), .string x1, .int .u64 (x2 : Nat), .string x3, .string x4, .string x5] ∧ x0 < 4294967296 ∧ x1.size ≤ maxLen ∧ x2 < 18446744073709551616 ∧ x3.size ≤ maxLen ∧ x4.size ≤ maxLen ∧ x5.size ≤ maxLen := by
  obtain ⟨cs, rfl, hcs⟩ := okWide_struct Tryz.underlying84 hv
  obtain ⟨fuel, hf⟩ := h
  obtain ⟨xs, m, _, _, hl, hx, hf⟩ := DataW.trod_struct Tryz.underlying84 hf
  rw [show Tryz.prog.cellsOf 84 = 6 from by kernel_rfl] at hl
  obtain ⟨a0, a1, a2, a3, a4, a5, hc⟩ := olist_6 hl
  rw [hc] at hf
  have h0 := hf 0 _ rfl
  have h1 := hf 1 _ rfl
  have h2 := hf 2 _ rfl
  have h3 := hf 3 _ rfl
  have h4 := hf 4 _ rfl
  have h5 := hf 5 _ rfl
  simp only [List.getElem_toArray, List.getElem_cons_zero, List.getElem_cons_succ, show Tryz.prog.cellsOf 22 = 1 from by kernel_rfl, show Tryz.prog.cellsOf 23 = 1 from by kernel_rfl, show Tryz.prog.cellsOf 9 = 1 from by kernel_rfl] at h0 h1 h2 h3 h4 h5
  rw [List.getElem?_eq_getElem (by rw [hx]; decide)] at h0 h1 h2 h3 h4 h5
  obtain ⟨n0, z0, _, w0⟩ := DataW.trod_int Tryz.underlying22 h0
  obtain ⟨n1, z1, _, w1⟩ := DataW.trod_string Tryz.underlying9 h1
  obtain ⟨n2, z2, _, w2⟩ := DataW.trod_int Tryz.underlying23 h2
  obtain ⟨n3, z3, _, w3⟩ := DataW.trod_string Tryz.underlying9 h3
  obtain ⟨n4, z4, _, w4⟩ := DataW.trod_string Tryz.underlying9 h4
  obtain ⟨n5, z5, _, w5⟩ := DataW.trod_string Tryz.underlying9 h5
  simp at z0 z1 z2 z3 z4 z5
  obtain ⟨m0, rfl, l0⟩ := wf_u32 w0
  obtain ⟨m2, rfl, l2⟩ := wf_u64 w2
  refine ⟨m0, n1, m2, n3, n4, n5, ?_, l0, w1, l2, w3, w4, w5⟩
  have : cs = #[a0, a1, a2, a3, a4, a5] := by
    have : cs.toList = [a0, a1, a2, a3, a4, a5] := by simpa [Value.cells] using hc
    rw [← Array.toArray_toList (xs := cs), this]
  rw [this, z0, z1, z2, z3, z4, z5]
end
section
open Go.RowKit Go.Deep Go.ChangeShapes Go.WideShapes Go.ChangeAt

theorem list_13 {α : Type} {l : List α} (h : l.length = 13) : ∃ a0 a1 a2 a3 a4 a5 a6 a7 a8 a9 a10 a11 a12, l = [a0, a1, a2, a3, a4, a5, a6, a7, a8, a9, a10, a11, a12] := by
  match l, h with
  | [a0, a1, a2, a3, a4, a5, a6, a7, a8, a9, a10, a11, a12], _ => exact ⟨a0, a1, a2, a3, a4, a5, a6, a7, a8, a9, a10, a11, a12, rfl⟩
theorem u32_lt {n : Int} (h : (Lit.int .u32 n).wf = true) : ∃ x : Nat, n = x ∧ x < 4294967296 := by
  simp only [Lit.wf, Bool.and_eq_true, decide_eq_true_eq] at h
  have e1 : IntKind.u32.min = 0 := rfl
  have e2 : IntKind.u32.max = 4294967295 := rfl
  exact ⟨n.toNat, by omega, by omega⟩
theorem u64_lt {n : Int} (h : (Lit.int .u64 n).wf = true) : ∃ x : Nat, n = x ∧ x < 18446744073709551616 := by
  simp only [Lit.wf, Bool.and_eq_true, decide_eq_true_eq] at h
  have e1 : IntKind.u64.min = 0 := rfl
  have e2 : IntKind.u64.max = 18446744073709551615 := rfl
  exact ⟨n.toNat, by omega, by omega⟩
section
variable {H : Type} {enc : TypeId × Value → H} {w : World} {base : Nat} {spare : Nat → Bool} {held : Bool}
set_option maxRecDepth 100000 in
set_option maxHeartbeats 3200000 in
theorem open_msg {r : Reach} {b0 : Nat} {v : Value} {d : DataW H} {ps : List MemPlace} (hv : Value.okWide Tryz.prog w r b0 25 v) (h : DataW.Trod enc Tryz.prog w base spare held 25 v d ps) :
    ∃ m : Mg, v = .agg m.cells ∧ m.Fine ∧ -9223372036854775808 ≤ m.k ∧ m.k ≤ 9223372036854775807 := by
  obtain ⟨cs, rfl, hcs⟩ := okWide_struct Tryz.underlying25 hv
  obtain ⟨fuel, hf⟩ := h
  obtain ⟨xs, m, _, _, hl, hx, hf⟩ := DataW.trod_struct Tryz.underlying25 hf
  rw [show Tryz.prog.cellsOf 25 = 13 from by kernel_rfl] at hl
  obtain ⟨a0, a1, a2, a3, a4, a5, a6, a7, a8, a9, a10, a11, a12, hc⟩ := list_13 hl
  rw [hc] at hf
  have h0 := hf 0 _ rfl
  have h1 := hf 1 _ rfl
  have h2 := hf 2 _ rfl
  have h3 := hf 3 _ rfl
  have h4 := hf 4 _ rfl
  have h5 := hf 5 _ rfl
  have h6 := hf 6 _ rfl
  have h7 := hf 7 _ rfl
  have h8 := hf 8 _ rfl
  have h9 := hf 9 _ rfl
  have h10 := hf 10 _ rfl
  have h11 := hf 11 _ rfl
  have h12 := hf 12 _ rfl
  simp only [List.getElem_toArray, List.getElem_cons_zero, List.getElem_cons_succ, show Tryz.prog.cellsOf 3 = 1 from by kernel_rfl, show Tryz.prog.cellsOf 22 = 1 from by kernel_rfl, show Tryz.prog.cellsOf 23 = 1 from by kernel_rfl, show Tryz.prog.cellsOf 9 = 1 from by kernel_rfl] at h0 h1 h2 h3 h4 h5 h6 h7 h8 h9 h10 h11 h12
  rw [List.getElem?_eq_getElem (by rw [hx]; decide)] at h0 h1 h2 h3 h4 h5 h6 h7 h8 h9 h10 h11 h12
  obtain ⟨n0, z0, _, w0⟩ := DataW.trod_int Tryz.underlying3 h0
  obtain ⟨n1, z1, _, w1⟩ := DataW.trod_int Tryz.underlying22 h1
  obtain ⟨n2, z2, _, w2⟩ := DataW.trod_int Tryz.underlying22 h2
  obtain ⟨n3, z3, _, w3⟩ := DataW.trod_int Tryz.underlying23 h3
  obtain ⟨s4, z4, _, w4⟩ := DataW.trod_string Tryz.underlying9 h4
  obtain ⟨s5, z5, _, w5⟩ := DataW.trod_string Tryz.underlying9 h5
  obtain ⟨s6, z6, _, w6⟩ := DataW.trod_string Tryz.underlying9 h6
  obtain ⟨s7, z7, _, w7⟩ := DataW.trod_string Tryz.underlying9 h7
  obtain ⟨s8, z8, _, w8⟩ := DataW.trod_string Tryz.underlying9 h8
  obtain ⟨s9, z9, _, w9⟩ := DataW.trod_string Tryz.underlying9 h9
  obtain ⟨s10, z10, _, w10⟩ := DataW.trod_string Tryz.underlying9 h10
  obtain ⟨s11, z11, _, w11⟩ := DataW.trod_string Tryz.underlying9 h11
  obtain ⟨s12, z12, _, w12⟩ := DataW.trod_string Tryz.underlying9 h12
  simp at z0 z1 z2 z3 z4 z5 z6 z7 z8 z9 z10 z11 z12
  obtain ⟨s, rfl, hs⟩ := u32_lt w1
  obtain ⟨r2, rfl, hr⟩ := u32_lt w2
  obtain ⟨c, rfl, hcc⟩ := u64_lt w3
  have bk := bounds_i64 w0
  refine ⟨⟨n0, s, r2, c, s4, s5, s6, s7, s8, s9, s10, s11, s12⟩, ?_, ⟨hs, hr, hcc, w4, w5, w6, w7, w8, w9, w10, w11, w12⟩, bk.1, bk.2⟩
  have : cs = #[a0, a1, a2, a3, a4, a5, a6, a7, a8, a9, a10, a11, a12] := by
    have : cs.toList = [a0, a1, a2, a3, a4, a5, a6, a7, a8, a9, a10, a11, a12] := by simpa [Value.cells] using hc
    rw [← Array.toArray_toList (xs := cs), this]
  rw [this, z0, z1, z2, z3, z4, z5, z6, z7, z8, z9, z10, z11, z12]
  rfl
end
end
end Go.Proofs.YtfipdjlalfpbnaaGreatDoor

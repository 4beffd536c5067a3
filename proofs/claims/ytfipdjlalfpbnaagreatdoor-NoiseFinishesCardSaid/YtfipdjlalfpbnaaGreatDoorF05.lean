/-
  Walks and plain words (texts Nf4). No condition beyond those that each theorem states.
-/
import Derived.Test.YtfipdjlalfpbnaaGreatDoorF01
namespace Go.Proofs.YtfipdjlalfpbnaaGreatDoor
section
open Go.RowKit Go.Deep

set_option maxRecDepth 100000 in
set_option maxHeartbeats 12800000 in
theorem nf_GY (w : World) (ep c h s q p y4 yc yh : ByteArray) (sd re nn : Nat) (k : Int) (sn r cc : Nat) (x4 x5 x6 x7 x8 x9 x10 x11 x12 : ByteArray) (hep : ep.size ≤ maxLen) (hc : c.size ≤ maxLen) (hh : h.size ≤ maxLen) (hs : s.size ≤ maxLen) (hq : q.size ≤ maxLen) (hp : p.size ≤ maxLen) (hy4 : y4.size ≤ maxLen) (hyc : yc.size ≤ maxLen) (hyh : yh.size ≤ maxLen) (hF : (Mg.mk k sn r cc x4 x5 x6 x7 x8 x9 x10 x11 x12).Fine) (htab : Tab w) (hb : bigB [ep, c, h, p, y4, yc, yh, s, q] = false) (hv : heavyV (Mg.mk k sn r cc x4 x5 x6 x7 x8 x9 x10 x11 x12) 4000 = false) (fk : Int) (fa fb : ByteArray) (hfv : finV ep c h s q sd (Mg.mk k sn r cc x4 x5 x6 x7 x8 x9 x10 x11 x12) = (fk, fa, fb)) (gs : isV s = true) (gq : isV q = true) (ep3 em2 ka2 kb2 : ByteArray) (hav : ansV p y4 yc yh s q = ⟨0, ep3, em2, ka2, kb2⟩) (t3 : Tn 60000 ep3) (tm2 : Tn 60000 em2) (ta2 : Tn 60000 ka2) (tb2 : Tn 60000 kb2) (hne : ka2 ≠ kb2) (gp : (whatV p).1 = 5) (gy : (whatV y4).1 = 5) (gc : isV yc = true) (gh : isV yh = true) (hre : re < 4294967296) (ge : isV ep = true) (gc1 : isV c = true) (gh1 : isV h = true) (gr : rightM (Mg.mk k sn r cc x4 x5 x6 x7 x8 x9 x10 x11 x12) = true) (gk : k = 2) (g4 : (whatV x4).1 = 5) (uA uB la ke wi em ka kb : ByteArray) (E : EndE c h x4 uA uB q la ke wi em ka kb) (e1 : agreeT ep x4 = uA) (e2 : agreeT s x4 = uB) (hfk : (fk, fa, fb) = if r ≠ sd then (6, ByteArray.empty, ByteArray.empty) else if x7 ≠ em then (8, ByteArray.empty, ByteArray.empty) else (0, kb, ka))  : Calls Tryz.prog 9 #[.agg #[.int .u32 (sd : Nat), .string ep, .string c, .string h], .agg #[.int .u32 (re : Nat), .string p, .int .u64 (nn : Nat), .string y4, .string yc, .string yh], .string s, .string q, .agg #[.int .i64 k, .int .u32 (sn : Nat), .int .u32 (r : Nat), .int .u64 (cc : Nat), .string x4, .string x5, .string x6, .string x7, .string x8, .string x9, .string x10, .string x11, .string x12]] w fun e' w' => e' = .returned (.bool true) ∧ Only [] w w' := by
  have KAW := hide (fun W h => awake10 W h)
  have KBG := hide (fun W G hG => big10_new9 W G hG ep c h p y4 yc yh s q hep hc hh hp hy4 hyc hyh hs hq)
  have KHV := hide (show ∀ W, Calls Tryz.prog 28 #[.agg #[.int .i64 k, .int .u32 (sn : Nat), .int .u32 (r : Nat), .int .u64 (cc : Nat), .string x4, .string x5, .string x6, .string x7, .string x8, .string x9, .string x10, .string x11, .string x12], .int .i64 4000] W (RetB (heavyV (Mg.mk k sn r cc x4 x5 x6 x7 x8 x9 x10 x11 x12) 4000) W) from fun W => Heavy_any (Mg.mk k sn r cc x4 x5 x6 x7 x8 x9 x10 x11 x12) 4000 W)
  unfold RetB at KBG KHV
  have HT := hide htab
  have HST := hide (((Blk.new w 72 #[.int .u32 (sd : Nat), .string ep, .string c, .string h]).alloc (.cells #[.int .u32 (re : Nat), .string p, .int .u64 (nn : Nat), .string y4, .string yc, .string yh] 84)).alloc (.cells #[.int .i64 k, .int .u32 (sn : Nat), .int .u32 (r : Nat), .int .u64 (cc : Nat), .string x4, .string x5, .string x6, .string x7, .string x8, .string x9, .string x10, .string x11, .string x12] 25))
  have HHD := hide ((Blk.new (w.alloc (.cells #[.int .u32 (sd : Nat), .string ep, .string c, .string h] 72)) 84 #[.int .u32 (re : Nat), .string p, .int .u64 (nn : Nat), .string y4, .string yc, .string yh]).alloc (.cells #[.int .i64 k, .int .u32 (sn : Nat), .int .u32 (r : Nat), .int .u64 (cc : Nat), .string x4, .string x5, .string x6, .string x7, .string x8, .string x9, .string x10, .string x11, .string x12] 25))
  have HMB := hide (Blk.new ((w.alloc (.cells #[.int .u32 (sd : Nat), .string ep, .string c, .string h] 72)).alloc (.cells #[.int .u32 (re : Nat), .string p, .int .u64 (nn : Nat), .string y4, .string yc, .string yh] 84)) 25 #[.int .i64 k, .int .u32 (sn : Nat), .int .u32 (r : Nat), .int .u64 (cc : Nat), .string x4, .string x5, .string x6, .string x7, .string x8, .string x9, .string x10, .string x11, .string x12])
  rw [World.size_alloc] at HHD
  rw [World.size_alloc, World.size_alloc] at HMB
  have HO := hide ((((Only.refl [] w).alloc (.cells #[.int .u32 (sd : Nat), .string ep, .string c, .string h] 72)).alloc (.cells #[.int .u32 (re : Nat), .string p, .int .u64 (nn : Nat), .string y4, .string yc, .string yh] 84)).alloc (.cells #[.int .i64 k, .int .u32 (sn : Nat), .int .u32 (r : Nat), .int .u64 (cc : Nat), .string x4, .string x5, .string x6, .string x7, .string x8, .string x9, .string x10, .string x11, .string x12] 25))
  have KF : Hid (∀ W, Tab W → Calls Tryz.prog 48 #[.agg #[.int .u32 (sd : Nat), .string ep, .string c, .string h], .string s, .string q, .agg #[.int .i64 k, .int .u32 (sn : Nat), .int .u32 (r : Nat), .int .u64 (cc : Nat), .string x4, .string x5, .string x6, .string x7, .string x8, .string x9, .string x10, .string x11, .string x12]] W (FinPost fk fa fb W)) := hide (fun W ht => by
      have h1 := Finish_any W ep c h s q sd k sn r cc x4 x5 x6 x7 x8 x9 x10 x11 x12 hep hc hh hs hq hF ht
      rw [hfv] at h1
      exact h1)
  have KA : Hid (∀ W, Tab W → Calls Tryz.prog 44 #[.agg #[.int .u32 (re : Nat), .string p, .int .u64 (nn : Nat), .string y4, .string yc, .string yh], .string s, .string q, .int .u32 4] W (AnsPost 0 #[.int .i64 2, .int .u32 4, .int .u32 (re : Nat), .int .u64 0, .string ep3, .string ⟨#[]⟩, .string ⟨#[]⟩, .string em2, .string ⟨#[]⟩, .string ⟨#[]⟩, .string ⟨#[]⟩, .string ⟨#[48]⟩, .string ⟨#[48]⟩] #[.string ka2, .string kb2] W)) := hide (fun W ht => by
      have h1 := Answer_any W re nn p y4 yc yh s q 4 hp hy4 hyc hyh hs hq ht
      rw [hav] at h1
      exact h1)
  unfold FinPost at KF
  unfold AnsPost at KA
  rw [hb] at KBG
  rw [hv] at KHV
  have KIs := hide (isv hs)
  have KIq := hide (isv hq)
  have KIe := hide (isv hep)
  have KIc := hide (isv hc)
  have KIh := hide (isv hh)
  have KYc := hide (isv hyc)
  have KYh := hide (isv hyh)
  have KRT := hide (isr hF)
  have KR4 := hide (fun W => readR_cells W x4 hF.x4)
  have KRp := hide (fun W => readR_cells W p hp)
  have KRy := hide (fun W => readR_cells W y4 hy4)
  have KRN := hide (show ∀ W, Calls Tryz.prog 49 #[.agg #[.int .i64 2, .int .u32 4, .int .u32 (re : Nat), .int .u64 0, .string ep3, .string ⟨#[]⟩, .string ⟨#[]⟩, .string em2, .string ⟨#[]⟩, .string ⟨#[]⟩, .string ⟨#[]⟩, .string ⟨#[48]⟩, .string ⟨#[48]⟩]] W (RetB true W) from fun W => by
      have h1 := RightR_any W (Mg.mk 2 4 re 0 ep3 ⟨#[]⟩ ⟨#[]⟩ em2 ⟨#[]⟩ ⟨#[]⟩ ⟨#[]⟩ ⟨#[48]⟩ ⟨#[48]⟩) (fine_ans (by decide) hre t3 tm2 (by omega) (by omega))
      rw [show rightM (Mg.mk 2 4 re 0 ep3 ⟨#[]⟩ ⟨#[]⟩ em2 ⟨#[]⟩ ⟨#[]⟩ ⟨#[]⟩ ⟨#[48]⟩ ⟨#[48]⟩) = true from ans_right (sn := 4) (r := re) t3 tm2 (by omega) (by omega)] at h1
      exact h1)
  have KIa := hide (isv (ta2.max (by omega)))
  rw [show isV ka2 = true from ta2.1] at KIa
  have KIb := hide (isv (tb2.max (by omega)))
  rw [show isV kb2 = true from tb2.1] at KIb
  unfold RetB at KRN
  have hnb : (ka2.toList == kb2.toList) = false := toList_no hne
  rw [gp] at KRp
  rw [gy] at KRy
  rw [gc] at KYc
  rw [gh] at KYh
  have hfp := node_field 5
  rw [gs] at KIs
  rw [gq] at KIq
  rw [ge] at KIe
  rw [gc1] at KIc
  rw [gh1] at KIh
  rw [gr] at KRT
  rw [g4] at KR4
  have hf4 := node_field 5
  have hk2 : (k != 2) = false := by rw [bne_eq_false_iff_eq]; exact gk
  have z_uA : uA.size ≤ maxLen := e1 ▸ agreeT_size _ _
  have z_uB : uB.size ≤ maxLen := e2 ▸ agreeT_size _ _
  have KG1 := hide (fun W => AgreeR_any W ep x4 hep hF.x4)
  have KG2 := hide (fun W => AgreeR_any W s x4 hs hF.x4)
  rw [e1] at KG1
  rw [e2] at KG2
  unfold MakePost at KG1 KG2
  have KLS := hide (fun W => LastR_any W c h x4 uA uB q hc hh hF.x4 z_uA z_uB hq)
  rw [E.e1, E.e2, E.e3, E.e4, E.e5, E.e6] at KLS
  have HFK := hide hfk
  have hzz : ∀ W, (binOp .neq 43 (.agg #[.string fa, .string fb]) (.agg #[.string fa, .string fb])).run Tryz.prog W = .ok (.bool false) W := fun W => keys_diff fa fb W
  clear hep hc hh hs hq hp hy4 hyc hyh hF htab hb hv hfv hav t3 tm2 ta2 tb2 hne gp gy gc gh hre gs gq ge gc1 gh1 gr gk g4 E e1 e2 hfk z_uA z_uB
  go_enter Tryz.func9, Tryz.ntmps9
  go_upto_region 1 with fail
  generalize (((w.alloc (.cells #[.int .u32 (sd : Nat), .string ep, .string c, .string h] 72)).alloc (.cells #[.int .u32 (re : Nat), .string p, .int .u64 (nn : Nat), .string y4, .string yc, .string yh] 84)).alloc (.cells #[.int .i64 k, .int .u32 (sn : Nat), .int .u32 (r : Nat), .int .u64 (cc : Nat), .string x4, .string x5, .string x6, .string x7, .string x8, .string x9, .string x10, .string x11, .string x12] 25)) = v0 at *
  go_upto_region 5 with (first
    | (go_at_call 36; refine (KAW.out _ (HT.out.only HO.out (by simp))).mono ?_; rintro e2 wa ⟨rfl, ho⟩; replace HST := hon HST ho; replace HHD := hon HHD ho; replace HMB := hon HMB ho; replace HO := htr HO ho; clear ho; obtain ⟨b0, b1, b2, b3⟩ := cells4 HST.out; obtain ⟨d0, d1, d2, d3, d4, d5⟩ := cells6 HHD.out; obtain ⟨m0, m1, m2, m3, m4, m5, m6, m7, m8, m9, m10, m11, m12⟩ := cells13 HMB.out)
    | (go_at_call 37; (with_reducible refine (KBG.out _ _ rfl).mono ?_); rintro e2 wg ⟨rfl, ho⟩; replace HST := hon HST ho; replace HHD := hon HHD ho; replace HMB := hon HMB ho; replace HO := htr HO ho; clear ho; (try clear b0 b1 b2 b3 d0 d1 d2 d3 d4 d5 m0 m1 m2 m3 m4 m5 m6 m7 m8 m9 m10 m11 m12); obtain ⟨b0, b1, b2, b3⟩ := cells4 HST.out; obtain ⟨d0, d1, d2, d3, d4, d5⟩ := cells6 HHD.out; obtain ⟨m0, m1, m2, m3, m4, m5, m6, m7, m8, m9, m10, m11, m12⟩ := cells13 HMB.out)
    | (go_at_call 28; (with_reducible refine (KHV.out _).mono ?_); rintro e2 wh ⟨rfl, ho⟩; replace HST := hon HST ho; replace HHD := hon HHD ho; replace HMB := hon HMB ho; replace HO := htr HO ho; clear ho; (try clear b0 b1 b2 b3 d0 d1 d2 d3 d4 d5 m0 m1 m2 m3 m4 m5 m6 m7 m8 m9 m10 m11 m12); obtain ⟨b0, b1, b2, b3⟩ := cells4 HST.out; obtain ⟨d0, d1, d2, d3, d4, d5⟩ := cells6 HHD.out; obtain ⟨m0, m1, m2, m3, m4, m5, m6, m7, m8, m9, m10, m11, m12⟩ := cells13 HMB.out))
  go_upto_region 6 with (go_at_call 48; refine (KF.out _ (HT.out.only HO.out (by simp))).mono ?_; rintro e2 wf ⟨rfl, ho⟩; replace HST := hon HST ho; replace HHD := hon HHD ho; replace HMB := hon HMB ho; replace HO := htr HO ho; clear ho KF b0 b1 b2 b3 d0 d1 d2 d3 d4 d5 m0 m1 m2 m3 m4 m5 m6 m7 m8 m9 m10 m11 m12)
  have HK := hide (Blk.new wf 43 #[.string fa, .string fb])
  replace HST := hide (HST.out.alloc (.cells #[.string fa, .string fb] 43))
  replace HHD := hide (HHD.out.alloc (.cells #[.string fa, .string fb] 43))
  replace HMB := hide (HMB.out.alloc (.cells #[.string fa, .string fb] 43))
  replace HO := hide (HO.out.alloc (.cells #[.string fa, .string fb] 43))
  generalize (wf.alloc (.cells #[.string fa, .string fb] 43)) = w1 at *
  obtain ⟨gk, hgk⟩ : ∃ g, g = wf.heap.size := ⟨_, rfl⟩
  rw [← hgk] at HK ⊢
  clear hgk
  obtain ⟨d0, d1, d2, d3, d4, d5⟩ := cells6 HHD.out
  go_upto_region 7 with (go_at_call 44; refine (KA.out _ (HT.out.only HO.out (by simp))).mono ?_; rintro e2 wn ⟨rfl, ho⟩; replace HST := hon HST ho; replace HHD := hon HHD ho; replace HMB := hon HMB ho; replace HK := hon HK ho; replace HO := htr HO ho; clear ho KA d0 d1 d2 d3 d4 d5)
  have HN := hide (Blk.new wn 25 #[.int .i64 2, .int .u32 4, .int .u32 (re : Nat), .int .u64 0, .string ep3, .string ⟨#[]⟩, .string ⟨#[]⟩, .string em2, .string ⟨#[]⟩, .string ⟨#[]⟩, .string ⟨#[]⟩, .string ⟨#[48]⟩, .string ⟨#[48]⟩])
  have HL := hide (Blk.new (wn.alloc (.cells #[.int .i64 2, .int .u32 4, .int .u32 (re : Nat), .int .u64 0, .string ep3, .string ⟨#[]⟩, .string ⟨#[]⟩, .string em2, .string ⟨#[]⟩, .string ⟨#[]⟩, .string ⟨#[]⟩, .string ⟨#[48]⟩, .string ⟨#[48]⟩] 25)) 43 #[.string ka2, .string kb2])
  replace HST := hide (HST.out.alloc (.cells #[.int .i64 2, .int .u32 4, .int .u32 (re : Nat), .int .u64 0, .string ep3, .string ⟨#[]⟩, .string ⟨#[]⟩, .string em2, .string ⟨#[]⟩, .string ⟨#[]⟩, .string ⟨#[]⟩, .string ⟨#[48]⟩, .string ⟨#[48]⟩] 25))
  replace HHD := hide (HHD.out.alloc (.cells #[.int .i64 2, .int .u32 4, .int .u32 (re : Nat), .int .u64 0, .string ep3, .string ⟨#[]⟩, .string ⟨#[]⟩, .string em2, .string ⟨#[]⟩, .string ⟨#[]⟩, .string ⟨#[]⟩, .string ⟨#[48]⟩, .string ⟨#[48]⟩] 25))
  replace HMB := hide (HMB.out.alloc (.cells #[.int .i64 2, .int .u32 4, .int .u32 (re : Nat), .int .u64 0, .string ep3, .string ⟨#[]⟩, .string ⟨#[]⟩, .string em2, .string ⟨#[]⟩, .string ⟨#[]⟩, .string ⟨#[]⟩, .string ⟨#[48]⟩, .string ⟨#[48]⟩] 25))
  replace HK := hide (HK.out.alloc (.cells #[.int .i64 2, .int .u32 4, .int .u32 (re : Nat), .int .u64 0, .string ep3, .string ⟨#[]⟩, .string ⟨#[]⟩, .string em2, .string ⟨#[]⟩, .string ⟨#[]⟩, .string ⟨#[]⟩, .string ⟨#[48]⟩, .string ⟨#[48]⟩] 25))
  replace HO := hide (HO.out.alloc (.cells #[.int .i64 2, .int .u32 4, .int .u32 (re : Nat), .int .u64 0, .string ep3, .string ⟨#[]⟩, .string ⟨#[]⟩, .string em2, .string ⟨#[]⟩, .string ⟨#[]⟩, .string ⟨#[]⟩, .string ⟨#[48]⟩, .string ⟨#[48]⟩] 25))
  replace HN := hide (HN.out.alloc (.cells #[.string ka2, .string kb2] 43))
  replace HST := hide (HST.out.alloc (.cells #[.string ka2, .string kb2] 43))
  replace HHD := hide (HHD.out.alloc (.cells #[.string ka2, .string kb2] 43))
  replace HMB := hide (HMB.out.alloc (.cells #[.string ka2, .string kb2] 43))
  replace HK := hide (HK.out.alloc (.cells #[.string ka2, .string kb2] 43))
  replace HO := hide (HO.out.alloc (.cells #[.string ka2, .string kb2] 43))
  rw [World.size_alloc] at HL
  generalize ((wn.alloc (.cells #[.int .i64 2, .int .u32 4, .int .u32 (re : Nat), .int .u64 0, .string ep3, .string ⟨#[]⟩, .string ⟨#[]⟩, .string em2, .string ⟨#[]⟩, .string ⟨#[]⟩, .string ⟨#[]⟩, .string ⟨#[48]⟩, .string ⟨#[48]⟩] 25)).alloc (.cells #[.string ka2, .string kb2] 43)) = w2 at *
  obtain ⟨gn, hgn⟩ : ∃ g, g = wn.heap.size := ⟨_, rfl⟩
  rw [← hgn] at HN HL ⊢
  clear hgn
  clear HT
  go_upto_region 7 with fail
  go_cut [16] (fun cv w' => cv = .bool true ∧ Hid (Only [] w2 w'))
  case first =>
    as_aux_lemma =>
      have HP := hide (Only.refl [] w2)
      go_wp2_with (first
        | (go_at_call 18; (with_reducible refine (KIs.out _).mono ?_); rintro e2 wi ⟨rfl, ho⟩; replace HST := hon HST ho; replace HHD := hon HHD ho; replace HMB := hon HMB ho; replace HK := hon HK ho; replace HN := hon HN ho; replace HL := hon HL ho; replace HO := htr HO ho; replace HP := htr HP ho; clear ho)
        | (go_at_call 18; (with_reducible refine (KIq.out _).mono ?_); rintro e2 wi ⟨rfl, ho⟩; replace HST := hon HST ho; replace HHD := hon HHD ho; replace HMB := hon HMB ho; replace HK := hon HK ho; replace HN := hon HN ho; replace HL := hon HL ho; replace HO := htr HO ho; replace HP := htr HP ho; clear ho))
      go_meet
      exact ⟨rfl, hide HP.out⟩
  obtain ⟨rfl, HO2⟩ := hcut
  replace HST := hon HST HO2.out; replace HHD := hon HHD HO2.out; replace HMB := hon HMB HO2.out; replace HK := hon HK HO2.out; replace HN := hon HN HO2.out; replace HL := hon HL HO2.out; replace HO := htr HO HO2.out
  clear HO2
  rename World => wc
  go_upto_region 9 with fail
  go_cut [103] (fun cv w' => cv = .bool false ∧ Hid (Only [] wc w'))
  case first =>
    as_aux_lemma =>
      have HP := hide (Only.refl [] wc)
      obtain ⟨b0, b1, b2, b3⟩ := cells4 HST.out
      obtain ⟨m0, m1, m2, m3, m4, m5, m6, m7, m8, m9, m10, m11, m12⟩ := cells13 HMB.out
      go_wp2_with (first
        | (go_at_call 18; (with_reducible refine (KIe.out _).mono ?_); rintro e2 wi ⟨rfl, ho⟩; replace HST := hon HST ho; replace HHD := hon HHD ho; replace HMB := hon HMB ho; replace HK := hon HK ho; replace HN := hon HN ho; replace HL := hon HL ho; replace HO := htr HO ho; replace HP := htr HP ho; clear ho; clear b0 b1 b2 b3 m0 m1 m2 m3 m4 m5 m6 m7 m8 m9 m10 m11 m12; obtain ⟨b0, b1, b2, b3⟩ := cells4 HST.out; obtain ⟨m0, m1, m2, m3, m4, m5, m6, m7, m8, m9, m10, m11, m12⟩ := cells13 HMB.out)
        | (go_at_call 18; (with_reducible refine (KIc.out _).mono ?_); rintro e2 wi ⟨rfl, ho⟩; replace HST := hon HST ho; replace HHD := hon HHD ho; replace HMB := hon HMB ho; replace HK := hon HK ho; replace HN := hon HN ho; replace HL := hon HL ho; replace HO := htr HO ho; replace HP := htr HP ho; clear ho; clear b0 b1 b2 b3 m0 m1 m2 m3 m4 m5 m6 m7 m8 m9 m10 m11 m12; obtain ⟨b0, b1, b2, b3⟩ := cells4 HST.out; obtain ⟨m0, m1, m2, m3, m4, m5, m6, m7, m8, m9, m10, m11, m12⟩ := cells13 HMB.out)
        | (go_at_call 18; (with_reducible refine (KIh.out _).mono ?_); rintro e2 wi ⟨rfl, ho⟩; replace HST := hon HST ho; replace HHD := hon HHD ho; replace HMB := hon HMB ho; replace HK := hon HK ho; replace HN := hon HN ho; replace HL := hon HL ho; replace HO := htr HO ho; replace HP := htr HP ho; clear ho; clear b0 b1 b2 b3 m0 m1 m2 m3 m4 m5 m6 m7 m8 m9 m10 m11 m12; obtain ⟨b0, b1, b2, b3⟩ := cells4 HST.out; obtain ⟨m0, m1, m2, m3, m4, m5, m6, m7, m8, m9, m10, m11, m12⟩ := cells13 HMB.out)
        | (go_at_call 49; (with_reducible refine (KRT.out _).mono ?_); rintro e2 wi ⟨rfl, ho⟩; replace HST := hon HST ho; replace HHD := hon HHD ho; replace HMB := hon HMB ho; replace HK := hon HK ho; replace HN := hon HN ho; replace HL := hon HL ho; replace HO := htr HO ho; replace HP := htr HP ho; clear ho; clear b0 b1 b2 b3 m0 m1 m2 m3 m4 m5 m6 m7 m8 m9 m10 m11 m12; obtain ⟨b0, b1, b2, b3⟩ := cells4 HST.out; obtain ⟨m0, m1, m2, m3, m4, m5, m6, m7, m8, m9, m10, m11, m12⟩ := cells13 HMB.out)
        | (go_at_call 39; (with_reducible refine (KR4.out _).mono ?_); rintro e2 wi ⟨A1, n1, c1, A2, n2, c2, rfl, ho⟩; replace HST := hon HST ho; replace HHD := hon HHD ho; replace HMB := hon HMB ho; replace HK := hon HK ho; replace HN := hon HN ho; replace HL := hon HL ho; replace HO := htr HO ho; replace HP := htr HP ho; clear ho; clear b0 b1 b2 b3 m0 m1 m2 m3 m4 m5 m6 m7 m8 m9 m10 m11 m12; obtain ⟨b0, b1, b2, b3⟩ := cells4 HST.out; obtain ⟨m0, m1, m2, m3, m4, m5, m6, m7, m8, m9, m10, m11, m12⟩ := cells13 HMB.out))
      go_meet
      exact ⟨rfl, hide HP.out⟩
  obtain ⟨rfl, HO2⟩ := hcut
  replace HST := hon HST HO2.out; replace HHD := hon HHD HO2.out; replace HMB := hon HMB HO2.out; replace HK := hon HK HO2.out; replace HN := hon HN HO2.out; replace HL := hon HL HO2.out; replace HO := htr HO HO2.out
  clear HO2
  rename World => wc
  go_upto_if 103 with fail
  go_cut [17] (fun cv w' => cv = .int .i64 fk ∧ Hid (Only [] wc w'))
  case first =>
    as_aux_lemma =>
      have HP := hide (Only.refl [] wc)
      obtain ⟨b0, b1, b2, b3⟩ := cells4 HST.out
      obtain ⟨m0, m1, m2, m3, m4, m5, m6, m7, m8, m9, m10, m11, m12⟩ := cells13 HMB.out
      obtain ⟨x0, x1⟩ := cells2 HK.out
      rcases Decidable.em (r ≠ sd) with hm | hm
      · rw [if_pos hm] at HFK
        have hfz := HFK.out
        simp only [Prod.mk.injEq] at hfz
        obtain ⟨rfl, rfl, rfl⟩ := hfz
        have hrb : ((r : Int) != (sd : Int)) = true := by rw [bne_iff_ne]; omega
        clear hm
        go_wp2_with fail
        go_meet
        exact ⟨rfl, hide HP.out⟩
      · rw [if_neg hm] at HFK
        have hrb : ((r : Int) != (sd : Int)) = false := by rw [bne_eq_false_iff_eq]; have := Decidable.not_not.1 hm; omega
        clear hm
        rcases Decidable.em (x7 ≠ em) with hm2 | hm2
        · rw [if_pos hm2] at HFK
          have hfz := HFK.out
          simp only [Prod.mk.injEq] at hfz
          obtain ⟨rfl, rfl, rfl⟩ := hfz
          have hxe : (x7.toList == em.toList) = false := toList_no hm2
          clear hm2
          go_upto_region 13 with fail
          clear b0 b1 b2 b3 m0 m1 m2 m3 m4 m5 m6 m7 m8 m9 m10 m11 m12 x0 x1
          refine wp_region_held_drew (S := fun W => Only [] wc W) (by kernel_rfl) (by exact (Only.refl [] wc).drew) (fun hHeld => ?_); generalize wc.drew = wd13 at *
          refine tk 0 ?_; refine tk 1 ?_ (hy := by (intro w hSw; (try dsimp only at hSw); have H_ := HST.out.only hSw (by simp); obtain ⟨b0, b1, b2, b3⟩ := cells4 H_; clear H_; go_simp; try with_reducible rfl)); refine tk 2 ?_
          refine tk 3 ?_ (hy := by (intro w hSw; (try dsimp only at hSw); have H_ := HST.out.only hSw (by simp); obtain ⟨b0, b1, b2, b3⟩ := cells4 H_; clear H_; go_simp; try with_reducible rfl)); refine tk 4 ?_; refine tk 5 ?_
          refine tk 6 ?_ (hy := by (intro w hSw; (try dsimp only at hSw); have H_ := HMB.out.only hSw (by simp); obtain ⟨-, -, -, -, m4, -⟩ := cells13 H_; clear H_; go_simp; try with_reducible rfl)); refine tk 7 ?_
          refine tk 8 ?_ (hy := by (intro w hSw; (try dsimp only at hSw); have H_ := HST.out.only hSw (by simp); obtain ⟨b0, b1, b2, b3⟩ := cells4 H_; clear H_; go_simp; try with_reducible rfl)); refine tk 9 ?_
          refine tk 10 ?_ (hy := by (intro w hSw; (try dsimp only at hSw); have H_ := HMB.out.only hSw (by simp); obtain ⟨-, -, -, -, m4, -⟩ := cells13 H_; clear H_; go_simp; try with_reducible rfl)); refine tk 12 ?_; refine tk 13 ?_
          refine tk 14 ?_ (hy := by (intro w hSw; (try dsimp only at hSw); have H_ := HMB.out.only hSw (by simp); obtain ⟨-, -, -, -, m4, -⟩ := cells13 H_; clear H_; go_simp; try with_reducible rfl)); refine tk 16 ?_
          refine wpAnyH_ready (rs := [11]) (by kernel_rfl) (by simp) ?_; refine (AllReadyH.cons rfl (fun K hK => ?_) AllReadyH.nil); go_simp; (go_at_call 46; refine (KG1.out _).mono ?_; rintro e2 w11 ⟨rfl, ho⟩)
          refine hK.out _ _ (by first | exact hHeld.trans ho | exact hHeld.trans (ho.mono (by simp))) (fun hN => ?_); clear hK K ho hHeld; have hHeld := hN; clear hN; (try simp only [zsa, zsb, zsc, Act.put, zsd, zse, zsf])
          refine wpAnyH_ready (rs := [15]) (by kernel_rfl) (by simp) ?_; refine (AllReadyH.cons rfl (fun K hK => ?_) AllReadyH.nil); go_simp; (go_at_call 46; refine (KG2.out _).mono ?_; rintro e2 w15 ⟨rfl, ho⟩)
          refine hK.out _ _ (by first | exact hHeld.trans ho | exact hHeld.trans (ho.mono (by simp))) (fun hN => ?_); clear hK K ho hHeld; have hHeld := hN; clear hN; (try simp only [zsa, zsb, zsc, Act.put, zsd, zse, zsf])
          refine wpAnyH_ready (rs := [17]) (by kernel_rfl) (by simp) ?_; refine (AllReadyH.cons rfl (fun K hK => ?_) AllReadyH.nil); go_simp; (go_at_call 45; refine (KLS.out _).mono ?_; rintro e2 w17 ⟨rfl, ho⟩)
          refine hK.out _ _ (by first | exact hHeld.trans ho | exact hHeld.trans (ho.mono (by simp))) (fun hN => ?_); clear hK K ho hHeld; have hHeld := hN; clear hN; (try simp only [zsa, zsb, zsc, Act.put, zsd, zse, zsf])
          refine tk 18 ?_; refine tk 19 ?_; refine tk 20 ?_; refine tk 21 ?_; refine tk 22 ?_; refine tk 23 ?_; refine tk 24 ?_; refine wpAnyH_done (by kernel_rfl) ?_ _
          replace HST := hon HST hHeld; replace HHD := hon HHD hHeld; replace HMB := hon HMB hHeld; replace HK := hon HK hHeld; replace HN := hon HN hHeld; replace HL := hon HL hHeld; replace HO := htr HO hHeld; replace HP := htr HP hHeld
          clear hHeld
          obtain ⟨b0, b1, b2, b3⟩ := cells4 HST.out
          obtain ⟨m0, m1, m2, m3, m4, m5, m6, m7, m8, m9, m10, m11, m12⟩ := cells13 HMB.out
          obtain ⟨x0, x1⟩ := cells2 HK.out
          go_wp2_with fail
          go_meet
          exact ⟨rfl, hide HP.out⟩
        · rw [if_neg hm2] at HFK
          have hfz := HFK.out
          simp only [Prod.mk.injEq] at hfz
          obtain ⟨rfl, rfl, rfl⟩ := hfz
          have hxe : (x7.toList == em.toList) = true := by rw [Decidable.not_not.1 hm2]; simp
          clear hm2
          go_upto_region 13 with fail
          clear b0 b1 b2 b3 m0 m1 m2 m3 m4 m5 m6 m7 m8 m9 m10 m11 m12 x0 x1
          refine wp_region_held_drew (S := fun W => Only [] wc W) (by kernel_rfl) (by exact (Only.refl [] wc).drew) (fun hHeld => ?_); generalize wc.drew = wd13 at *
          refine tk 0 ?_; refine tk 1 ?_ (hy := by (intro w hSw; (try dsimp only at hSw); have H_ := HST.out.only hSw (by simp); obtain ⟨b0, b1, b2, b3⟩ := cells4 H_; clear H_; go_simp; try with_reducible rfl)); refine tk 2 ?_
          refine tk 3 ?_ (hy := by (intro w hSw; (try dsimp only at hSw); have H_ := HST.out.only hSw (by simp); obtain ⟨b0, b1, b2, b3⟩ := cells4 H_; clear H_; go_simp; try with_reducible rfl)); refine tk 4 ?_; refine tk 5 ?_
          refine tk 6 ?_ (hy := by (intro w hSw; (try dsimp only at hSw); have H_ := HMB.out.only hSw (by simp); obtain ⟨-, -, -, -, m4, -⟩ := cells13 H_; clear H_; go_simp; try with_reducible rfl)); refine tk 7 ?_
          refine tk 8 ?_ (hy := by (intro w hSw; (try dsimp only at hSw); have H_ := HST.out.only hSw (by simp); obtain ⟨b0, b1, b2, b3⟩ := cells4 H_; clear H_; go_simp; try with_reducible rfl)); refine tk 9 ?_
          refine tk 10 ?_ (hy := by (intro w hSw; (try dsimp only at hSw); have H_ := HMB.out.only hSw (by simp); obtain ⟨-, -, -, -, m4, -⟩ := cells13 H_; clear H_; go_simp; try with_reducible rfl)); refine tk 12 ?_; refine tk 13 ?_
          refine tk 14 ?_ (hy := by (intro w hSw; (try dsimp only at hSw); have H_ := HMB.out.only hSw (by simp); obtain ⟨-, -, -, -, m4, -⟩ := cells13 H_; clear H_; go_simp; try with_reducible rfl)); refine tk 16 ?_
          refine wpAnyH_ready (rs := [11]) (by kernel_rfl) (by simp) ?_; refine (AllReadyH.cons rfl (fun K hK => ?_) AllReadyH.nil); go_simp; (go_at_call 46; refine (KG1.out _).mono ?_; rintro e2 w11 ⟨rfl, ho⟩)
          refine hK.out _ _ (by first | exact hHeld.trans ho | exact hHeld.trans (ho.mono (by simp))) (fun hN => ?_); clear hK K ho hHeld; have hHeld := hN; clear hN; (try simp only [zsa, zsb, zsc, Act.put, zsd, zse, zsf])
          refine wpAnyH_ready (rs := [15]) (by kernel_rfl) (by simp) ?_; refine (AllReadyH.cons rfl (fun K hK => ?_) AllReadyH.nil); go_simp; (go_at_call 46; refine (KG2.out _).mono ?_; rintro e2 w15 ⟨rfl, ho⟩)
          refine hK.out _ _ (by first | exact hHeld.trans ho | exact hHeld.trans (ho.mono (by simp))) (fun hN => ?_); clear hK K ho hHeld; have hHeld := hN; clear hN; (try simp only [zsa, zsb, zsc, Act.put, zsd, zse, zsf])
          refine wpAnyH_ready (rs := [17]) (by kernel_rfl) (by simp) ?_; refine (AllReadyH.cons rfl (fun K hK => ?_) AllReadyH.nil); go_simp; (go_at_call 45; refine (KLS.out _).mono ?_; rintro e2 w17 ⟨rfl, ho⟩)
          refine hK.out _ _ (by first | exact hHeld.trans ho | exact hHeld.trans (ho.mono (by simp))) (fun hN => ?_); clear hK K ho hHeld; have hHeld := hN; clear hN; (try simp only [zsa, zsb, zsc, Act.put, zsd, zse, zsf])
          refine tk 18 ?_; refine tk 19 ?_; refine tk 20 ?_; refine tk 21 ?_; refine tk 22 ?_; refine tk 23 ?_; refine tk 24 ?_; refine wpAnyH_done (by kernel_rfl) ?_ _
          replace HST := hon HST hHeld; replace HHD := hon HHD hHeld; replace HMB := hon HMB hHeld; replace HK := hon HK hHeld; replace HN := hon HN hHeld; replace HL := hon HL hHeld; replace HO := htr HO hHeld; replace HP := htr HP hHeld
          clear hHeld
          obtain ⟨b0, b1, b2, b3⟩ := cells4 HST.out
          obtain ⟨m0, m1, m2, m3, m4, m5, m6, m7, m8, m9, m10, m11, m12⟩ := cells13 HMB.out
          obtain ⟨x0, x1⟩ := cells2 HK.out
          go_wp2_with fail
          go_meet
          exact ⟨rfl, hide HP.out⟩
  obtain ⟨rfl, HO2⟩ := hcut
  replace HST := hon HST HO2.out; replace HHD := hon HHD HO2.out; replace HMB := hon HMB HO2.out; replace HK := hon HK HO2.out; replace HN := hon HN HO2.out; replace HL := hon HL HO2.out; replace HO := htr HO HO2.out
  clear HO2
  rename World => wc
  go_upto_region 18 with fail
  go_cut [151] (fun cv w' => cv = .bool false ∧ Hid (Only [] wc w'))
  case first =>
    as_aux_lemma =>
      have HP := hide (Only.refl [] wc)
      obtain ⟨x0, x1⟩ := cells2 HK.out
      rcases Decidable.em (fk = 0) with hm | hm
      · have hf1 : (fk != fk) = false := by simp
        have hf2 : (fk != 0) = false := by rw [bne_eq_false_iff_eq]; exact hm
        clear hm
        go_wp2_with fail
        go_meet
        exact ⟨rfl, hide HP.out⟩
      · have hf1 : (fk != fk) = false := by simp
        have hf2 : (fk != 0) = true := by rw [bne_iff_ne]; exact hm
        have hfe : fa = ByteArray.empty ∧ fb = ByteArray.empty := by
          have hfz := HFK.out
          split at hfz
          · simp only [Prod.mk.injEq] at hfz; exact ⟨hfz.2.1, hfz.2.2⟩
          · split at hfz
            · simp only [Prod.mk.injEq] at hfz; exact ⟨hfz.2.1, hfz.2.2⟩
            · simp only [Prod.mk.injEq] at hfz; exact absurd hfz.1 hm
        obtain ⟨rfl, rfl⟩ := hfe
        clear hm
        go_wp2_with fail
        go_meet
        exact ⟨rfl, hide HP.out⟩
  obtain ⟨rfl, HO2⟩ := hcut
  replace HST := hon HST HO2.out; replace HHD := hon HHD HO2.out; replace HMB := hon HMB HO2.out; replace HK := hon HK HO2.out; replace HN := hon HN HO2.out; replace HL := hon HL HO2.out; replace HO := htr HO HO2.out
  clear HO2
  rename World => wc
  have HP := hide (Only.refl [] wc)
  obtain ⟨d0, d1, d2, d3, d4, d5⟩ := cells6 HHD.out
  obtain ⟨a0, a1, a2, a3, a4, a5, a6, a7, a8, a9, a10, a11, a12⟩ := cells13 HN.out
  obtain ⟨k0, k1⟩ := cells2 HL.out
  go_wp2_with (first
    | (go_at_call 39; (with_reducible refine (KRp.out _).mono ?_); rintro e2 wi ⟨A1, n1, c1, A2, n2, c2, rfl, ho⟩; replace HST := hon HST ho; replace HHD := hon HHD ho; replace HMB := hon HMB ho; replace HK := hon HK ho; replace HN := hon HN ho; replace HL := hon HL ho; replace HO := htr HO ho; replace HP := htr HP ho; clear ho; clear d0 d1 d2 d3 d4 d5 a0 a1 a2 a3 a4 a5 a6 a7 a8 a9 a10 a11 a12 k0 k1; obtain ⟨d0, d1, d2, d3, d4, d5⟩ := cells6 HHD.out; obtain ⟨a0, a1, a2, a3, a4, a5, a6, a7, a8, a9, a10, a11, a12⟩ := cells13 HN.out; obtain ⟨k0, k1⟩ := cells2 HL.out)
    | (go_at_call 39; (with_reducible refine (KRy.out _).mono ?_); rintro e2 wi ⟨A1, n1, c1, A2, n2, c2, rfl, ho⟩; replace HST := hon HST ho; replace HHD := hon HHD ho; replace HMB := hon HMB ho; replace HK := hon HK ho; replace HN := hon HN ho; replace HL := hon HL ho; replace HO := htr HO ho; replace HP := htr HP ho; clear ho; clear d0 d1 d2 d3 d4 d5 a0 a1 a2 a3 a4 a5 a6 a7 a8 a9 a10 a11 a12 k0 k1; obtain ⟨d0, d1, d2, d3, d4, d5⟩ := cells6 HHD.out; obtain ⟨a0, a1, a2, a3, a4, a5, a6, a7, a8, a9, a10, a11, a12⟩ := cells13 HN.out; obtain ⟨k0, k1⟩ := cells2 HL.out)
    | (go_at_call 18; (with_reducible refine (KYc.out _).mono ?_); rintro e2 wi ⟨rfl, ho⟩; replace HST := hon HST ho; replace HHD := hon HHD ho; replace HMB := hon HMB ho; replace HK := hon HK ho; replace HN := hon HN ho; replace HL := hon HL ho; replace HO := htr HO ho; replace HP := htr HP ho; clear ho; clear d0 d1 d2 d3 d4 d5 a0 a1 a2 a3 a4 a5 a6 a7 a8 a9 a10 a11 a12 k0 k1; obtain ⟨d0, d1, d2, d3, d4, d5⟩ := cells6 HHD.out; obtain ⟨a0, a1, a2, a3, a4, a5, a6, a7, a8, a9, a10, a11, a12⟩ := cells13 HN.out; obtain ⟨k0, k1⟩ := cells2 HL.out)
    | (go_at_call 18; (with_reducible refine (KYh.out _).mono ?_); rintro e2 wi ⟨rfl, ho⟩; replace HST := hon HST ho; replace HHD := hon HHD ho; replace HMB := hon HMB ho; replace HK := hon HK ho; replace HN := hon HN ho; replace HL := hon HL ho; replace HO := htr HO ho; replace HP := htr HP ho; clear ho; clear d0 d1 d2 d3 d4 d5 a0 a1 a2 a3 a4 a5 a6 a7 a8 a9 a10 a11 a12 k0 k1; obtain ⟨d0, d1, d2, d3, d4, d5⟩ := cells6 HHD.out; obtain ⟨a0, a1, a2, a3, a4, a5, a6, a7, a8, a9, a10, a11, a12⟩ := cells13 HN.out; obtain ⟨k0, k1⟩ := cells2 HL.out)
    | (go_at_call 49; (with_reducible refine (KRN.out _).mono ?_); rintro e2 wi ⟨rfl, ho⟩; replace HST := hon HST ho; replace HHD := hon HHD ho; replace HMB := hon HMB ho; replace HK := hon HK ho; replace HN := hon HN ho; replace HL := hon HL ho; replace HO := htr HO ho; replace HP := htr HP ho; clear ho; clear d0 d1 d2 d3 d4 d5 a0 a1 a2 a3 a4 a5 a6 a7 a8 a9 a10 a11 a12 k0 k1; obtain ⟨d0, d1, d2, d3, d4, d5⟩ := cells6 HHD.out; obtain ⟨a0, a1, a2, a3, a4, a5, a6, a7, a8, a9, a10, a11, a12⟩ := cells13 HN.out; obtain ⟨k0, k1⟩ := cells2 HL.out)
    | (go_at_call 18; (with_reducible refine (KIa.out _).mono ?_); rintro e2 wi ⟨rfl, ho⟩; replace HST := hon HST ho; replace HHD := hon HHD ho; replace HMB := hon HMB ho; replace HK := hon HK ho; replace HN := hon HN ho; replace HL := hon HL ho; replace HO := htr HO ho; replace HP := htr HP ho; clear ho; clear d0 d1 d2 d3 d4 d5 a0 a1 a2 a3 a4 a5 a6 a7 a8 a9 a10 a11 a12 k0 k1; obtain ⟨d0, d1, d2, d3, d4, d5⟩ := cells6 HHD.out; obtain ⟨a0, a1, a2, a3, a4, a5, a6, a7, a8, a9, a10, a11, a12⟩ := cells13 HN.out; obtain ⟨k0, k1⟩ := cells2 HL.out)
    | (go_at_call 18; (with_reducible refine (KIb.out _).mono ?_); rintro e2 wi ⟨rfl, ho⟩; replace HST := hon HST ho; replace HHD := hon HHD ho; replace HMB := hon HMB ho; replace HK := hon HK ho; replace HN := hon HN ho; replace HL := hon HL ho; replace HO := htr HO ho; replace HP := htr HP ho; clear ho; clear d0 d1 d2 d3 d4 d5 a0 a1 a2 a3 a4 a5 a6 a7 a8 a9 a10 a11 a12 k0 k1; obtain ⟨d0, d1, d2, d3, d4, d5⟩ := cells6 HHD.out; obtain ⟨a0, a1, a2, a3, a4, a5, a6, a7, a8, a9, a10, a11, a12⟩ := cells13 HN.out; obtain ⟨k0, k1⟩ := cells2 HL.out))
  go_ret
  exact ⟨rfl, HO.out⟩
end
end Go.Proofs.YtfipdjlalfpbnaaGreatDoor

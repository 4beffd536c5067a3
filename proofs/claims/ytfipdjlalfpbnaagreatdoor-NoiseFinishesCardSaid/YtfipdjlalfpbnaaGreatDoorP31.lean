/-
  Walks and plain words (texts No10). No condition beyond those that each theorem states.
-/
import Derived.Test.YtfipdjlalfpbnaaGreatDoorP30
namespace Go.Proofs.YtfipdjlalfpbnaaGreatDoor
section
open Go.RowKit Go.Deep

set_option maxRecDepth 100000 in
set_option maxHeartbeats 12800000 in
theorem Finish_walk (w : World) (ep c h s q : ByteArray) (sd : Nat) (k : Int) (sn r cc : Nat) (x4 x5 x6 x7 x8 x9 x10 x11 x12 : ByteArray) (hep : ep.size ≤ maxLen) (hc : c.size ≤ maxLen) (hh : h.size ≤ maxLen) (hs : s.size ≤ maxLen) (hq : q.size ≤ maxLen) (hF : (Mg.mk k sn r cc x4 x5 x6 x7 x8 x9 x10 x11 x12).Fine) (hb : termsB [s, q, ep, c, h] = true) (hr : rightM (Mg.mk k sn r cc x4 x5 x6 x7 x8 x9 x10 x11 x12) = true) (hk : k = 2) (hp : pubsB [x4] = true) (hn : r = sd) (htab : Tab w) (uA uB la ke wi ka kb : ByteArray) (e_uA : agreeT ep x4 = uA) (e_uB : agreeT s x4 = uB) (e_la : endA c x4 uA uB q = la) (e_ke : endK c x4 uA uB q = ke) (e_wi : endW c h x4 uA uB q = wi) (e_ka : kdfT 1 la ⟨#[48]⟩ = ka) (e_kb : kdfT 2 la ⟨#[48]⟩ = kb) (ot : ByteArray) (oc : Int) (hoc : openT x7 ke 0 wi = (ot, oc)) (Q : Ending → World → Prop) (q1 : oc ≠ 0 → ∀ e w', FinPost 8 ByteArray.empty ByteArray.empty w e w' → Q e w') (q2 : oc = 0 → ot ≠ ⟨#[48]⟩ → ∀ e w', FinPost 8 ByteArray.empty ByteArray.empty w e w' → Q e w') (q3 : oc = 0 → ot = ⟨#[48]⟩ → madeB [ka, kb] = false → ∀ e w', FinPost 5 ByteArray.empty ByteArray.empty w e w' → Q e w') (q4 : oc = 0 → ot = ⟨#[48]⟩ → madeB [ka, kb] = true → ∀ e w', FinPost 0 ka kb w e w' → Q e w') : Calls Tryz.prog 48 #[.agg #[.int .u32 (sd : Nat), .string ep, .string c, .string h], .string s, .string q, .agg #[.int .i64 k, .int .u32 (sn : Nat), .int .u32 (r : Nat), .int .u64 (cc : Nat), .string x4, .string x5, .string x6, .string x7, .string x8, .string x9, .string x10, .string x11, .string x12]] w Q := by
  have z_uA : uA.size ≤ maxLen := e_uA ▸ agreeT_size _ _
  have z_uB : uB.size ≤ maxLen := e_uB ▸ agreeT_size _ _
  have z_la : la.size ≤ maxLen := e_la ▸ kdfT_size 1 (by omega) _ _
  have z_ke : ke.size ≤ maxLen := e_ke ▸ kdfT_size 3 (by omega) _ _
  have z_wi : wi.size ≤ maxLen := e_wi ▸ hashT_size _ _
  have z_ka : ka.size ≤ maxLen := e_ka ▸ kdfT_size 1 (by omega) _ _
  have z_kb : kb.size ≤ maxLen := e_kb ▸ kdfT_size 2 (by omega) _ _
  have hx4 : x4.size ≤ maxLen := hF.x4
  have hx7 : x7.size ≤ maxLen := hF.x7
  have KA := hide (fun W h => Agree_any W ep x4 hep hx4 h)
  have KB := hide (fun W h => Agree_any W s x4 hs hx4 h)
  have KE := hide (fun W ht => end_any W c h x4 uA uB q hc hh hx4 z_uA z_uB hq ht)
  have KO := hide (fun W => nopen_any W x7 ke wi hx7)
  have K1 := hide (fun W h => kdf1_any W la ⟨#[48]⟩ z_la zero_size h)
  have K2 := hide (fun W h => kdf2_any W la ⟨#[48]⟩ z_la zero_size h)
  have KM := hide (fun W G hG => made_new2 W G hG ka kb z_ka z_kb)
  rw [e_uA] at KA
  rw [e_uB] at KB
  rw [e_la, e_ke, e_wi] at KE
  rw [e_ka] at K1
  rw [e_kb] at K2
  unfold MakePost at KA KB K1 K2
  unfold LastPost at KE
  unfold RetB at KM
  rw [hoc] at KO
  simp only at KO
  have KT := hide (fun W G hG => terms_new5 W G hG s q ep c h hs hq hep hc hh)
  have KP := hide (fun W G hG => pubs_new1 W G hG x4 hF.x4)
  have HTM := hide (fun W => Terms_any W (Mg.mk k sn r cc x4 x5 x6 x7 x8 x9 x10 x11 x12) hF)
  have HTX := hide (fun (h : rightM (Mg.mk k sn r cc x4 x5 x6 x7 x8 x9 x10 x11 x12) = true) => texts_pos h)
  unfold RetB at KT KP
  unfold TermsPost at HTM
  have HSB := hide (((Blk.new w 72 #[.int .u32 (sd : Nat), .string ep, .string c, .string h]).alloc (.cells #[.int .i64 k, .int .u32 (sn : Nat), .int .u32 (r : Nat), .int .u64 (cc : Nat), .string x4, .string x5, .string x6, .string x7, .string x8, .string x9, .string x10, .string x11, .string x12] 25)).alloc (.cells #[.string ⟨#[]⟩, .string ⟨#[]⟩] 43))
  have HMB := hide ((Blk.new (w.alloc (.cells #[.int .u32 (sd : Nat), .string ep, .string c, .string h] 72)) 25 #[.int .i64 k, .int .u32 (sn : Nat), .int .u32 (r : Nat), .int .u64 (cc : Nat), .string x4, .string x5, .string x6, .string x7, .string x8, .string x9, .string x10, .string x11, .string x12]).alloc (.cells #[.string ⟨#[]⟩, .string ⟨#[]⟩] 43))
  have HR := hide (Blk.new ((w.alloc (.cells #[.int .u32 (sd : Nat), .string ep, .string c, .string h] 72)).alloc (.cells #[.int .i64 k, .int .u32 (sn : Nat), .int .u32 (r : Nat), .int .u64 (cc : Nat), .string x4, .string x5, .string x6, .string x7, .string x8, .string x9, .string x10, .string x11, .string x12] 25)) 43 #[.string ⟨#[]⟩, .string ⟨#[]⟩])
  rw [World.size_alloc] at HMB
  rw [World.size_alloc, World.size_alloc] at HR
  have HO := hide ((((Only.refl [] w).alloc (.cells #[.int .u32 (sd : Nat), .string ep, .string c, .string h] 72)).alloc (.cells #[.int .i64 k, .int .u32 (sn : Nat), .int .u32 (r : Nat), .int .u64 (cc : Nat), .string x4, .string x5, .string x6, .string x7, .string x8, .string x9, .string x10, .string x11, .string x12] 25)).alloc (.cells #[.string ⟨#[]⟩, .string ⟨#[]⟩] 43))
  rw [hb] at KT
  rw [hp] at KP
  rw [hr] at HTM
  simp only [if_true] at HTM
  obtain ⟨tl, htl⟩ : ∃ l, textsM (Mg.mk k sn r cc x4 x5 x6 x7 x8 x9 x10 x11 x12) = l := ⟨_, rfl⟩
  rw [htl] at HTM HTX
  have hn0 := HTX.out hr
  obtain ⟨n2, hn2⟩ : ∃ n, n = tl.length := ⟨_, rfl⟩
  have HN2 := hide hn2.symm
  have hnp : (0 : Int) < n2 := by omega
  have hnq : ((n2 : Int) == 0) = false := by rw [beq_eq_false_iff_ne]; omega
  clear htl hn0 hn2 HTX
  have hkb : (k != 2) = false := by rw [bne_eq_false_iff_eq]; exact hk
  have hrb : ((r : Int) != (sd : Int)) = false := by rw [bne_eq_false_iff_eq]; omega
  clear hb hr hk hp hn hoc
  have HT := hide htab
  have Q1 := hide q1
  have Q2 := hide q2
  have Q3 := hide q3
  have Q4 := hide q4
  clear htab hep hc hh hs hq hF hx4 hx7 q1 q2 q3 q4 z_uA e_uA z_uB e_uB z_la e_la z_ke e_ke z_wi e_wi z_ka e_ka z_kb e_kb
  go_enter Tryz.func48, Tryz.ntmps48
  go_upto_region 1 with fail
  generalize (((w.alloc (.cells #[.int .u32 (sd : Nat), .string ep, .string c, .string h] 72)).alloc (.cells #[.int .i64 k, .int .u32 (sn : Nat), .int .u32 (r : Nat), .int .u64 (cc : Nat), .string x4, .string x5, .string x6, .string x7, .string x8, .string x9, .string x10, .string x11, .string x12] 25)).alloc (.cells #[.string ⟨#[]⟩, .string ⟨#[]⟩] 43)) = v0 at *
  obtain ⟨m0, m1, m2, m3, m4, m5, m6, m7, m8, m9, m10, m11, m12⟩ := cells13 HMB.out; obtain ⟨s0, s1, s2, s3⟩ := cells4 HSB.out; obtain ⟨r0, r1⟩ := cells2 HR.out; have rf := HR.out.frozen
  go_upto_region 5 with (first
    | (go_at_call 88; refine (KT.out _ _ rfl).mono ?_; rintro e wt ⟨rfl, ho⟩; replace HSB := hon HSB ho; replace HMB := hon HMB ho; replace HR := hon HR ho; replace HO := htr HO ho; clear ho; (first | (clear m0 m1 m2 m3 m4 m5 m6 m7 m8 m9 m10 m11 m12 s0 s1 s2 s3 r0 r1 rf) | skip); obtain ⟨m0, m1, m2, m3, m4, m5, m6, m7, m8, m9, m10, m11, m12⟩ := cells13 HMB.out; obtain ⟨s0, s1, s2, s3⟩ := cells4 HSB.out; obtain ⟨r0, r1⟩ := cells2 HR.out; have rf := HR.out.frozen)
    | (go_at_call 56; refine (HTM.out _).mono ?_; rintro e wq ⟨ho, v, rfl, hrd⟩; obtain ⟨A2, cp, hv, hcc, hmm⟩ := hrd.form; replace hv : v = .slice A2 n2 cp := (by rw [hv, show (strc tl).length = tl.length by simp [strc], HN2.out]); subst hv; clear hrd hcc hmm; replace HSB := hon HSB ho; replace HMB := hon HMB ho; replace HR := hon HR ho; replace HO := htr HO ho; clear ho; (first | (clear m0 m1 m2 m3 m4 m5 m6 m7 m8 m9 m10 m11 m12 s0 s1 s2 s3 r0 r1 rf) | skip); obtain ⟨m0, m1, m2, m3, m4, m5, m6, m7, m8, m9, m10, m11, m12⟩ := cells13 HMB.out; obtain ⟨s0, s1, s2, s3⟩ := cells4 HSB.out; obtain ⟨r0, r1⟩ := cells2 HR.out; have rf := HR.out.frozen)
    | (go_at_call 89; refine (KP.out _ _ rfl).mono ?_; rintro e wp ⟨rfl, ho⟩; replace HSB := hon HSB ho; replace HMB := hon HMB ho; replace HR := hon HR ho; replace HO := htr HO ho; clear ho; (first | (clear m0 m1 m2 m3 m4 m5 m6 m7 m8 m9 m10 m11 m12 s0 s1 s2 s3 r0 r1 rf) | skip); obtain ⟨m0, m1, m2, m3, m4, m5, m6, m7, m8, m9, m10, m11, m12⟩ := cells13 HMB.out; obtain ⟨s0, s1, s2, s3⟩ := cells4 HSB.out; obtain ⟨r0, r1⟩ := cells2 HR.out; have rf := HR.out.frozen))
  clear m0 m1 m2 m3 m4 m5 m6 m7 m8 m9 m10 m11 m12 s0 s1 s2 s3 r0 r1 rf
  go_cut [10] (fun pv w' => ∃ g2, pv = .pointer (some ⟨g2, 0, none⟩) ∧ wp.heap.size ≤ g2 ∧ Hid (Blk w' g2 142 #[.string la, .string ke, .string wi]) ∧ Hid (Only [] wp w'))
  case first =>
    rename_i JJ KK hJJ hKK
    refine wp_region_held_drew (S := fun W => Only [] wp W) (by kernel_rfl) (by exact (Only.refl [] wp).drew) (fun hHeld => ?_); generalize wp.drew = wd5 at *
    refine tk 0 ?_; refine tk 1 ?_ (hy := by (intro w hSw; (try dsimp only at hSw); have HSw := HSB.out.only hSw (by simp); obtain ⟨s0, s1, s2, s3⟩ := cells4 HSw; clear HSw; go_simp; try with_reducible rfl)); refine tk 2 ?_
    refine tk 3 ?_ (hy := by (intro w hSw; (try dsimp only at hSw); have HSw := HSB.out.only hSw (by simp); obtain ⟨s0, s1, s2, s3⟩ := cells4 HSw; clear HSw; go_simp; try with_reducible rfl)); refine tk 4 ?_; refine tk 5 ?_
    refine tk 6 ?_ (hy := by (intro w hSw; (try dsimp only at hSw); have HMw := HMB.out.only hSw (by simp); obtain ⟨-, -, -, -, m4, -⟩ := cells13 HMw; clear HMw; go_simp; try with_reducible rfl)); refine tk 7 ?_
    refine tk 8 ?_ (hy := by (intro w hSw; (try dsimp only at hSw); have HSw := HSB.out.only hSw (by simp); obtain ⟨s0, s1, s2, s3⟩ := cells4 HSw; clear HSw; go_simp; try with_reducible rfl)); refine tk 9 ?_
    refine tk 10 ?_ (hy := by (intro w hSw; (try dsimp only at hSw); have HMw := HMB.out.only hSw (by simp); obtain ⟨-, -, -, -, m4, -⟩ := cells13 HMw; clear HMw; go_simp; try with_reducible rfl)); refine tk 12 ?_; refine tk 13 ?_
    refine tk 14 ?_ (hy := by (intro w hSw; (try dsimp only at hSw); have HMw := HMB.out.only hSw (by simp); obtain ⟨-, -, -, -, m4, -⟩ := cells13 HMw; clear HMw; go_simp; try with_reducible rfl)); refine tk 16 ?_
    refine wpAnyH_ready (rs := [11, 18]) (by kernel_rfl) (by simp) ?_; refine (AllReadyH.cons rfl (fun K hK => ?_) (AllReadyH.cons rfl (fun K hK => ?_) AllReadyH.nil))
    · go_simp; (go_at_call 93; refine (KA.out _ (HT.out.only (HO.out.trans hHeld) (by simp))).mono ?_; rintro e2 w11 ⟨rfl, ho⟩)
      refine hK.out _ _ (by first | exact hHeld.trans ho | exact hHeld.trans (ho.mono (by simp))) (fun hN => ?_); clear hK K ho hHeld; have hHeld := hN; clear hN; (try simp only [zsa, zsb, zsc, Act.put, zsd, zse, zsf])
      refine wpAnyH_ready (rs := [15, 18]) (by kernel_rfl) (by simp) ?_; refine (AllReadyH.cons rfl (fun K hK => ?_) (AllReadyH.cons rfl (fun K hK => ?_) AllReadyH.nil))
      · go_simp; (go_at_call 93; refine (KB.out _ (HT.out.only (HO.out.trans hHeld) (by simp))).mono ?_; rintro e2 w15 ⟨rfl, ho⟩)
        refine hK.out _ _ (by first | exact hHeld.trans ho | exact hHeld.trans (ho.mono (by simp))) (fun hN => ?_); clear hK K ho hHeld; have hHeld := hN; clear hN; (try simp only [zsa, zsb, zsc, Act.put, zsd, zse, zsf])
        refine wpAnyH_ready (rs := [17, 18]) (by kernel_rfl) (by simp) ?_; refine (AllReadyH.cons rfl (fun K hK => ?_) (AllReadyH.cons rfl (fun K hK => ?_) AllReadyH.nil))
        · go_simp; (go_at_call 104; refine (KE.out _ (HT.out.only (HO.out.trans hHeld) (by simp))).mono ?_; rintro e2 w17 ⟨rfl, ho⟩)
          refine hK.out _ _ (by first | exact hHeld.trans ho | exact hHeld.trans (ho.mono (by simp))) (fun hN => ?_); clear hK K ho hHeld; have hHeld := hN; clear hN; (try simp only [zsa, zsb, zsc, Act.put, zsd, zse, zsf])
          refine wpAnyH_ready (rs := [18]) (by kernel_rfl) (by simp) ?_; refine (AllReadyH.cons rfl (fun K hK => ?_) AllReadyH.nil); go_simp; have HNS := hide hHeld.size; refine hK.out _ _ (by exact hHeld.alloc _) (fun hN => ?_)
          clear hK K hHeld; have hHeld := hN; clear hN; (try simp only [zsa, zsb, zsc, Act.put, zsd, zse, zsf]); have HNM := hide (Blk.new w17 142 #[.string ⟨#[]⟩, .string ⟨#[]⟩, .string ⟨#[]⟩])
          generalize (w17.alloc (.cells #[.string ⟨#[]⟩, .string ⟨#[]⟩, .string ⟨#[]⟩] 142)) = w18 at *
          refine wpAnyH_ready (rs := [19]) (by kernel_rfl) (by simp) ?_; refine (AllReadyH.cons rfl (fun K hK => ?_) AllReadyH.nil); rw [if_pos (by rfl)]
          refine wp_store_mid _ _ _ rfl _ _ #[.string la, .string ke, .string wi] rfl rfl (blk_there HNM.out _ rfl) (by kernel_rfl) (by simp [Value.oneCell']) ?_
          have HST := hide (show Blk (w18.setCells _ 0 [.string la, .string ke, .string wi]) _ 142 #[.string la, .string ke, .string wi] from blk_stored HNM.out [.string la, .string ke, .string wi] rfl)
          refine hK.out _ _ (by exact only_stored hHeld HNS.out [.string la, .string ke, .string wi]) (fun hHeldN => ?_); clear hK K hHeld; have hHeld := hHeldN; clear hHeldN; (try simp only [zsa, zsb, zsc, Act.put])
          refine wpAnyH_done (by kernel_rfl) ?_ _; dsimp only [Exit.then]; refine hKK _ _ ?_; go_meet; exact ⟨_, rfl, HNS.out, HST, hide hHeld⟩
        · go_simp; have HNS := hide hHeld.size; refine hK.out _ _ (by exact hHeld.alloc _) (fun hN => ?_); clear hK K hHeld; have hHeld := hN; clear hN; (try simp only [zsa, zsb, zsc, Act.put, zsd, zse, zsf])
          have HNM := hide (Blk.new w15 142 #[.string ⟨#[]⟩, .string ⟨#[]⟩, .string ⟨#[]⟩]); generalize (w15.alloc (.cells #[.string ⟨#[]⟩, .string ⟨#[]⟩, .string ⟨#[]⟩] 142)) = w18 at *
          refine wpAnyH_ready (rs := [17]) (by kernel_rfl) (by simp) ?_; refine (AllReadyH.cons rfl (fun K hK => ?_) AllReadyH.nil); go_simp
          (go_at_call 104; refine (KE.out _ (HT.out.only (HO.out.trans hHeld) (by simp))).mono ?_; rintro e2 w17 ⟨rfl, ho⟩; replace HNM := hon HNM ho)
          refine hK.out _ _ (by first | exact hHeld.trans ho | exact hHeld.trans (ho.mono (by simp))) (fun hN => ?_); clear hK K ho hHeld; have hHeld := hN; clear hN; (try simp only [zsa, zsb, zsc, Act.put, zsd, zse, zsf])
          refine wpAnyH_ready (rs := [19]) (by kernel_rfl) (by simp) ?_; refine (AllReadyH.cons rfl (fun K hK => ?_) AllReadyH.nil); rw [if_pos (by rfl)]
          refine wp_store_mid _ _ _ rfl _ _ #[.string la, .string ke, .string wi] rfl rfl (blk_there HNM.out _ rfl) (by kernel_rfl) (by simp [Value.oneCell']) ?_
          have HST := hide (show Blk (w17.setCells _ 0 [.string la, .string ke, .string wi]) _ 142 #[.string la, .string ke, .string wi] from blk_stored HNM.out [.string la, .string ke, .string wi] rfl)
          refine hK.out _ _ (by exact only_stored hHeld HNS.out [.string la, .string ke, .string wi]) (fun hHeldN => ?_); clear hK K hHeld; have hHeld := hHeldN; clear hHeldN; (try simp only [zsa, zsb, zsc, Act.put])
          refine wpAnyH_done (by kernel_rfl) ?_ _; dsimp only [Exit.then]; refine hKK _ _ ?_; go_meet; exact ⟨_, rfl, HNS.out, HST, hide hHeld⟩
      · go_simp; have HNS := hide hHeld.size; refine hK.out _ _ (by exact hHeld.alloc _) (fun hN => ?_); clear hK K hHeld; have hHeld := hN; clear hN; (try simp only [zsa, zsb, zsc, Act.put, zsd, zse, zsf])
        have HNM := hide (Blk.new w11 142 #[.string ⟨#[]⟩, .string ⟨#[]⟩, .string ⟨#[]⟩]); generalize (w11.alloc (.cells #[.string ⟨#[]⟩, .string ⟨#[]⟩, .string ⟨#[]⟩] 142)) = w18 at *
        refine wpAnyH_ready (rs := [15]) (by kernel_rfl) (by simp) ?_; refine (AllReadyH.cons rfl (fun K hK => ?_) AllReadyH.nil); go_simp
        (go_at_call 93; refine (KB.out _ (HT.out.only (HO.out.trans hHeld) (by simp))).mono ?_; rintro e2 w15 ⟨rfl, ho⟩; replace HNM := hon HNM ho)
        refine hK.out _ _ (by first | exact hHeld.trans ho | exact hHeld.trans (ho.mono (by simp))) (fun hN => ?_); clear hK K ho hHeld; have hHeld := hN; clear hN; (try simp only [zsa, zsb, zsc, Act.put, zsd, zse, zsf])
        refine wpAnyH_ready (rs := [17]) (by kernel_rfl) (by simp) ?_; refine (AllReadyH.cons rfl (fun K hK => ?_) AllReadyH.nil); go_simp
        (go_at_call 104; refine (KE.out _ (HT.out.only (HO.out.trans hHeld) (by simp))).mono ?_; rintro e2 w17 ⟨rfl, ho⟩; replace HNM := hon HNM ho)
        refine hK.out _ _ (by first | exact hHeld.trans ho | exact hHeld.trans (ho.mono (by simp))) (fun hN => ?_); clear hK K ho hHeld; have hHeld := hN; clear hN; (try simp only [zsa, zsb, zsc, Act.put, zsd, zse, zsf])
        refine wpAnyH_ready (rs := [19]) (by kernel_rfl) (by simp) ?_; refine (AllReadyH.cons rfl (fun K hK => ?_) AllReadyH.nil); rw [if_pos (by rfl)]
        refine wp_store_mid _ _ _ rfl _ _ #[.string la, .string ke, .string wi] rfl rfl (blk_there HNM.out _ rfl) (by kernel_rfl) (by simp [Value.oneCell']) ?_
        have HST := hide (show Blk (w17.setCells _ 0 [.string la, .string ke, .string wi]) _ 142 #[.string la, .string ke, .string wi] from blk_stored HNM.out [.string la, .string ke, .string wi] rfl)
        refine hK.out _ _ (by exact only_stored hHeld HNS.out [.string la, .string ke, .string wi]) (fun hHeldN => ?_); clear hK K hHeld; have hHeld := hHeldN; clear hHeldN; (try simp only [zsa, zsb, zsc, Act.put])
        refine wpAnyH_done (by kernel_rfl) ?_ _; dsimp only [Exit.then]; refine hKK _ _ ?_; go_meet; exact ⟨_, rfl, HNS.out, HST, hide hHeld⟩
    · go_simp; have HNS := hide hHeld.size; refine hK.out _ _ (by exact hHeld.alloc _) (fun hN => ?_); clear hK K hHeld; have hHeld := hN; clear hN; (try simp only [zsa, zsb, zsc, Act.put, zsd, zse, zsf])
      have HNM := hide (Blk.new wd5 142 #[.string ⟨#[]⟩, .string ⟨#[]⟩, .string ⟨#[]⟩]); generalize (wd5.alloc (.cells #[.string ⟨#[]⟩, .string ⟨#[]⟩, .string ⟨#[]⟩] 142)) = w18 at *
      refine wpAnyH_ready (rs := [11]) (by kernel_rfl) (by simp) ?_; refine (AllReadyH.cons rfl (fun K hK => ?_) AllReadyH.nil); go_simp
      (go_at_call 93; refine (KA.out _ (HT.out.only (HO.out.trans hHeld) (by simp))).mono ?_; rintro e2 w11 ⟨rfl, ho⟩; replace HNM := hon HNM ho)
      refine hK.out _ _ (by first | exact hHeld.trans ho | exact hHeld.trans (ho.mono (by simp))) (fun hN => ?_); clear hK K ho hHeld; have hHeld := hN; clear hN; (try simp only [zsa, zsb, zsc, Act.put, zsd, zse, zsf])
      refine wpAnyH_ready (rs := [15]) (by kernel_rfl) (by simp) ?_; refine (AllReadyH.cons rfl (fun K hK => ?_) AllReadyH.nil); go_simp
      (go_at_call 93; refine (KB.out _ (HT.out.only (HO.out.trans hHeld) (by simp))).mono ?_; rintro e2 w15 ⟨rfl, ho⟩; replace HNM := hon HNM ho)
      refine hK.out _ _ (by first | exact hHeld.trans ho | exact hHeld.trans (ho.mono (by simp))) (fun hN => ?_); clear hK K ho hHeld; have hHeld := hN; clear hN; (try simp only [zsa, zsb, zsc, Act.put, zsd, zse, zsf])
      refine wpAnyH_ready (rs := [17]) (by kernel_rfl) (by simp) ?_; refine (AllReadyH.cons rfl (fun K hK => ?_) AllReadyH.nil); go_simp
      (go_at_call 104; refine (KE.out _ (HT.out.only (HO.out.trans hHeld) (by simp))).mono ?_; rintro e2 w17 ⟨rfl, ho⟩; replace HNM := hon HNM ho)
      refine hK.out _ _ (by first | exact hHeld.trans ho | exact hHeld.trans (ho.mono (by simp))) (fun hN => ?_); clear hK K ho hHeld; have hHeld := hN; clear hN; (try simp only [zsa, zsb, zsc, Act.put, zsd, zse, zsf])
      refine wpAnyH_ready (rs := [19]) (by kernel_rfl) (by simp) ?_; refine (AllReadyH.cons rfl (fun K hK => ?_) AllReadyH.nil); rw [if_pos (by rfl)]
      refine wp_store_mid _ _ _ rfl _ _ #[.string la, .string ke, .string wi] rfl rfl (blk_there HNM.out _ rfl) (by kernel_rfl) (by simp [Value.oneCell']) ?_
      have HST := hide (show Blk (w17.setCells _ 0 [.string la, .string ke, .string wi]) _ 142 #[.string la, .string ke, .string wi] from blk_stored HNM.out [.string la, .string ke, .string wi] rfl)
      refine hK.out _ _ (by exact only_stored hHeld HNS.out [.string la, .string ke, .string wi]) (fun hHeldN => ?_); clear hK K hHeld; have hHeld := hHeldN; clear hHeldN; (try simp only [zsa, zsb, zsc, Act.put])
      refine wpAnyH_done (by kernel_rfl) ?_ _; dsimp only [Exit.then]; refine hKK _ _ ?_; go_meet; exact ⟨_, rfl, HNS.out, HST, hide hHeld⟩
  obtain ⟨g, rfl, hg2, HL, HO2⟩ := hcut
  replace HMB := hon HMB HO2.out
  replace HR := hon HR HO2.out
  replace HO := htr HO HO2.out
  clear HO2 hg2 HSB KA KB KE KT KP HTM
  rename World => w5
  have m7 := HMB.out.cell 7; simp at m7
  have l0 := HL.out.cell 0; have l1 := HL.out.cell 1; have l2 := HL.out.cell 2; simp at l0 l1 l2
  have r0 := HR.out.cell 0; have r1 := HR.out.cell 1; simp at r0 r1; have rf := HR.out.frozen
  rcases Decidable.em (oc = 0) with ho | ho
  · have hob : (oc == 0) = true := by rw [beq_iff_eq]; exact ho
    rw [hob] at KO
    have H1 := hide ho
    clear ho hob
    rcases Decidable.em (ot = ⟨#[48]⟩) with ho | ho
    · have H2 := hide ho
      subst ho
      have hqz : ((⟨#[48]⟩ : ByteArray).toList == [48]) = true := by kernel_rfl
      go_upto_region 9 with (go_at_call 100; refine (KO.out _).mono ?_; rintro e2 w6 ⟨rfl, ho⟩; replace HL := hon HL ho; replace HR := hon HR ho; replace HO := htr HO ho; clear ho m7 l0 l1 l2 r0 r1 rf KO; have r0 := HR.out.cell 0; have r1 := HR.out.cell 1; simp at r0 r1; have rf := HR.out.frozen)
      clear r0 r1 rf
      go_cut [13] (fun pv w' => ∃ g2, pv = .pointer (some ⟨g2, 0, none⟩) ∧ w6.heap.size ≤ g2 ∧ Hid (Blk w' g2 43 #[.string ka, .string kb]) ∧ Hid (Only [] w6 w'))
      case first =>
        rename_i JJ KK hJJ hKK
        refine wp_region_held_drew (S := fun W => Only [] w6 W) (by kernel_rfl) (by exact (Only.refl [] w6).drew) (fun hHeld => ?_); generalize w6.drew = wd9 at *
        refine tk 0 ?_; refine tk 1 ?_ (hy := by (intro w hSw; (try dsimp only at hSw); have HLw := HL.out.only hSw (by simp); have l0 := HLw.cell 0; simp at l0; clear HLw; go_simp; try with_reducible rfl)); refine tk 3 ?_
        refine tk 4 ?_ (hy := by (intro w hSw; (try dsimp only at hSw); have HLw := HL.out.only hSw (by simp); have l0 := HLw.cell 0; simp at l0; clear HLw; go_simp; try with_reducible rfl))
        refine wpAnyH_ready (rs := [2, 7]) (by kernel_rfl) (by simp) ?_; refine (AllReadyH.cons rfl (fun K hK => ?_) (AllReadyH.cons rfl (fun K hK => ?_) AllReadyH.nil))
        · go_simp; (go_at_call 105; refine (K1.out _ (HT.out.only (HO.out.trans hHeld) (by simp))).mono ?_; rintro e2 w2 ⟨rfl, ho⟩)
          refine hK.out _ _ (by first | exact hHeld.trans ho | exact hHeld.trans (ho.mono (by simp))) (fun hN => ?_); clear hK K ho hHeld; have hHeld := hN; clear hN; (try simp only [zsa, zsb, zsc, Act.put, zsd, zse, zsf])
          refine wpAnyH_ready (rs := [5, 7]) (by kernel_rfl) (by simp) ?_; refine (AllReadyH.cons rfl (fun K hK => ?_) (AllReadyH.cons rfl (fun K hK => ?_) AllReadyH.nil))
          · go_simp; (go_at_call 105; refine (K2.out _ (HT.out.only (HO.out.trans hHeld) (by simp))).mono ?_; rintro e2 w5 ⟨rfl, ho⟩)
            refine hK.out _ _ (by first | exact hHeld.trans ho | exact hHeld.trans (ho.mono (by simp))) (fun hN => ?_); clear hK K ho hHeld; have hHeld := hN; clear hN; (try simp only [zsa, zsb, zsc, Act.put, zsd, zse, zsf])
            refine tk 6 ?_; refine wpAnyH_ready (rs := [7]) (by kernel_rfl) (by simp) ?_; refine (AllReadyH.cons rfl (fun K hK => ?_) AllReadyH.nil); go_simp; have HNS := hide hHeld.size
            refine hK.out _ _ (by exact hHeld.alloc _) (fun hN => ?_); clear hK K hHeld; have hHeld := hN; clear hN; (try simp only [zsa, zsb, zsc, Act.put, zsd, zse, zsf])
            have HNM := hide (Blk.new w5 43 #[.string ⟨#[]⟩, .string ⟨#[]⟩]); generalize (w5.alloc (.cells #[.string ⟨#[]⟩, .string ⟨#[]⟩] 43)) = w7 at *
            refine wpAnyH_ready (rs := [8]) (by kernel_rfl) (by simp) ?_; refine (AllReadyH.cons rfl (fun K hK => ?_) AllReadyH.nil); rw [if_pos (by rfl)]
            refine wp_store_mid _ _ _ rfl _ _ #[.string ka, .string kb] rfl rfl (blk_there HNM.out _ rfl) (by kernel_rfl) (by simp [Value.oneCell']) ?_
            have HST := hide (show Blk (w7.setCells _ 0 [.string ka, .string kb]) _ 43 #[.string ka, .string kb] from blk_stored HNM.out [.string ka, .string kb] rfl)
            refine hK.out _ _ (by exact only_stored hHeld HNS.out [.string ka, .string kb]) (fun hHeldN => ?_); clear hK K hHeld; have hHeld := hHeldN; clear hHeldN; (try simp only [zsa, zsb, zsc, Act.put])
            refine wpAnyH_done (by kernel_rfl) ?_ _; dsimp only [Exit.then]; refine hKK _ _ ?_; go_meet; exact ⟨_, rfl, HNS.out, HST, hide hHeld⟩
          · go_simp; have HNS := hide hHeld.size; refine hK.out _ _ (by exact hHeld.alloc _) (fun hN => ?_); clear hK K hHeld; have hHeld := hN; clear hN; (try simp only [zsa, zsb, zsc, Act.put, zsd, zse, zsf])
            have HNM := hide (Blk.new w2 43 #[.string ⟨#[]⟩, .string ⟨#[]⟩]); generalize (w2.alloc (.cells #[.string ⟨#[]⟩, .string ⟨#[]⟩] 43)) = w7 at *
            refine wpAnyH_ready (rs := [5]) (by kernel_rfl) (by simp) ?_; refine (AllReadyH.cons rfl (fun K hK => ?_) AllReadyH.nil); go_simp
            (go_at_call 105; refine (K2.out _ (HT.out.only (HO.out.trans hHeld) (by simp))).mono ?_; rintro e2 w5 ⟨rfl, ho⟩; replace HNM := hon HNM ho)
            refine hK.out _ _ (by first | exact hHeld.trans ho | exact hHeld.trans (ho.mono (by simp))) (fun hN => ?_); clear hK K ho hHeld; have hHeld := hN; clear hN; (try simp only [zsa, zsb, zsc, Act.put, zsd, zse, zsf])
            refine tk 6 ?_; refine wpAnyH_ready (rs := [8]) (by kernel_rfl) (by simp) ?_; refine (AllReadyH.cons rfl (fun K hK => ?_) AllReadyH.nil); rw [if_pos (by rfl)]
            refine wp_store_mid _ _ _ rfl _ _ #[.string ka, .string kb] rfl rfl (blk_there HNM.out _ rfl) (by kernel_rfl) (by simp [Value.oneCell']) ?_
            have HST := hide (show Blk (w5.setCells _ 0 [.string ka, .string kb]) _ 43 #[.string ka, .string kb] from blk_stored HNM.out [.string ka, .string kb] rfl)
            refine hK.out _ _ (by exact only_stored hHeld HNS.out [.string ka, .string kb]) (fun hHeldN => ?_); clear hK K hHeld; have hHeld := hHeldN; clear hHeldN; (try simp only [zsa, zsb, zsc, Act.put])
            refine wpAnyH_done (by kernel_rfl) ?_ _; dsimp only [Exit.then]; refine hKK _ _ ?_; go_meet; exact ⟨_, rfl, HNS.out, HST, hide hHeld⟩
        · go_simp; have HNS := hide hHeld.size; refine hK.out _ _ (by exact hHeld.alloc _) (fun hN => ?_); clear hK K hHeld; have hHeld := hN; clear hN; (try simp only [zsa, zsb, zsc, Act.put, zsd, zse, zsf])
          have HNM := hide (Blk.new wd9 43 #[.string ⟨#[]⟩, .string ⟨#[]⟩]); generalize (wd9.alloc (.cells #[.string ⟨#[]⟩, .string ⟨#[]⟩] 43)) = w7 at *
          refine wpAnyH_ready (rs := [2]) (by kernel_rfl) (by simp) ?_; refine (AllReadyH.cons rfl (fun K hK => ?_) AllReadyH.nil); go_simp
          (go_at_call 105; refine (K1.out _ (HT.out.only (HO.out.trans hHeld) (by simp))).mono ?_; rintro e2 w2 ⟨rfl, ho⟩; replace HNM := hon HNM ho)
          refine hK.out _ _ (by first | exact hHeld.trans ho | exact hHeld.trans (ho.mono (by simp))) (fun hN => ?_); clear hK K ho hHeld; have hHeld := hN; clear hN; (try simp only [zsa, zsb, zsc, Act.put, zsd, zse, zsf])
          refine wpAnyH_ready (rs := [5]) (by kernel_rfl) (by simp) ?_; refine (AllReadyH.cons rfl (fun K hK => ?_) AllReadyH.nil); go_simp
          (go_at_call 105; refine (K2.out _ (HT.out.only (HO.out.trans hHeld) (by simp))).mono ?_; rintro e2 w5 ⟨rfl, ho⟩; replace HNM := hon HNM ho)
          refine hK.out _ _ (by first | exact hHeld.trans ho | exact hHeld.trans (ho.mono (by simp))) (fun hN => ?_); clear hK K ho hHeld; have hHeld := hN; clear hN; (try simp only [zsa, zsb, zsc, Act.put, zsd, zse, zsf])
          refine tk 6 ?_; refine wpAnyH_ready (rs := [8]) (by kernel_rfl) (by simp) ?_; refine (AllReadyH.cons rfl (fun K hK => ?_) AllReadyH.nil); rw [if_pos (by rfl)]
          refine wp_store_mid _ _ _ rfl _ _ #[.string ka, .string kb] rfl rfl (blk_there HNM.out _ rfl) (by kernel_rfl) (by simp [Value.oneCell']) ?_
          have HST := hide (show Blk (w5.setCells _ 0 [.string ka, .string kb]) _ 43 #[.string ka, .string kb] from blk_stored HNM.out [.string ka, .string kb] rfl)
          refine hK.out _ _ (by exact only_stored hHeld HNS.out [.string ka, .string kb]) (fun hHeldN => ?_); clear hK K hHeld; have hHeld := hHeldN; clear hHeldN; (try simp only [zsa, zsb, zsc, Act.put])
          refine wpAnyH_done (by kernel_rfl) ?_ _; dsimp only [Exit.then]; refine hKK _ _ ?_; go_meet; exact ⟨_, rfl, HNS.out, HST, hide hHeld⟩
      obtain ⟨g3, rfl, hg2, HK, HO2⟩ := hcut
      replace HR := hon HR HO2.out
      replace HO := htr HO HO2.out
      clear HO2 hg2 HL K1 K2
      rename World => w9
      have k0 := HK.out.cell 0; have k1 := HK.out.cell 1; simp at k0 k1
      have r0 := HR.out.cell 0; have r1 := HR.out.cell 1; simp at r0 r1; have rf := HR.out.frozen
      rcases Bool.eq_false_or_eq_true (madeB [ka, kb]) with hm | hm
      · rw [hm] at KM
        have H3 := hide hm
        clear hm
        go_upto_region 12 with (go_at_call 96; (with_reducible refine (KM.out _ _ rfl).mono ?_); rintro e2 wm ⟨rfl, ho⟩; replace HR := hon HR ho; replace HK := hon HK ho; replace HO := htr HO ho; clear ho k0 k1 r0 r1 rf; have k0 := HK.out.cell 0; have k1 := HK.out.cell 1; simp at k0 k1; have r0 := HR.out.cell 0; have r1 := HR.out.cell 1; simp at r0 r1; have rf := HR.out.frozen)
        clear KM HT HMB HN2
        go_wp2_with fail
        refine bodyPost_ret (results_cell_two rfl _ _ (w.heap.size + 2) 43 _ (0, 0) _ rfl (set2 HR.out (.string ka) (.string kb)) Tryz.underlying43 rfl (by kernel_rfl)) rfl ?_
        exact Q4.out H1.out H2.out H3.out _ _ ⟨rfl, only2 HO.out (.inr (by omega)) (.string ka) (.string kb)⟩
      · rw [hm] at KM
        have H3 := hide hm
        clear hm
        go_upto_region 11 with (go_at_call 96; (with_reducible refine (KM.out _ _ rfl).mono ?_); rintro e2 wm ⟨rfl, ho⟩; replace HR := hon HR ho; replace HK := hon HK ho; replace HO := htr HO ho; clear ho k0 k1 r0 r1 rf; have k0 := HK.out.cell 0; have k1 := HK.out.cell 1; simp at k0 k1; have r0 := HR.out.cell 0; have r1 := HR.out.cell 1; simp at r0 r1; have rf := HR.out.frozen)
        clear k0 k1 HK KM HT HMB HN2
        rename World => wE
        (iterate 4 go_step)
        refine wpList_store_mid rfl _ _ _ rfl _ 0 #[.string ⟨#[]⟩, .string ⟨#[]⟩] rfl rfl (blk_there HR.out _ rfl) (by kernel_rfl) (by simp [Value.oneCell']) ?_
        replace HR := hide (show Blk (wE.setCells (w.heap.size + 2) 0 [.string ⟨#[]⟩, .string ⟨#[]⟩]) _ _ #[.string ⟨#[]⟩, .string ⟨#[]⟩] from blk_stored HR.out [.string ⟨#[]⟩, .string ⟨#[]⟩] rfl)
        replace HO := hide (only_stored HO.out (Nat.le_add_right _ 2) [.string ⟨#[]⟩, .string ⟨#[]⟩])
        generalize (wE.setCells (w.heap.size + 2) 0 [.string ⟨#[]⟩, .string ⟨#[]⟩]) = wz at *
        (repeat go_step)
        refine bodyPost_ret (results_cell_two rfl _ _ (w.heap.size + 2) 43 _ (0, 0) _ rfl HR.out Tryz.underlying43 rfl (by kernel_rfl)) rfl ?_
        exact Q3.out H1.out H2.out H3.out _ _ ⟨rfl, HO.out⟩
    · have hq1 : (ot.toList == [48]) = false := by rw [beq_eq_false_iff_ne]; exact fun h => ho (toList_inj (h.trans (show [48] = (⟨#[48]⟩ : ByteArray).toList from by kernel_rfl)))
      have H2 := hide ho
      clear ho
      go_upto_region 8 with (go_at_call 100; refine (KO.out _).mono ?_; rintro e2 w6 ⟨rfl, ho⟩; replace HL := hon HL ho; replace HR := hon HR ho; replace HO := htr HO ho; clear ho m7 l0 l1 l2 r0 r1 rf KO; have r0 := HR.out.cell 0; have r1 := HR.out.cell 1; simp at r0 r1; have rf := HR.out.frozen)
      clear HL K1 K2 KM HT HMB HN2
      rename World => wE
      (iterate 4 go_step)
      refine wpList_store_mid rfl _ _ _ rfl _ 0 #[.string ⟨#[]⟩, .string ⟨#[]⟩] rfl rfl (blk_there HR.out _ rfl) (by kernel_rfl) (by simp [Value.oneCell']) ?_
      replace HR := hide (show Blk (wE.setCells (w.heap.size + 2) 0 [.string ⟨#[]⟩, .string ⟨#[]⟩]) _ _ #[.string ⟨#[]⟩, .string ⟨#[]⟩] from blk_stored HR.out [.string ⟨#[]⟩, .string ⟨#[]⟩] rfl)
      replace HO := hide (only_stored HO.out (Nat.le_add_right _ 2) [.string ⟨#[]⟩, .string ⟨#[]⟩])
      generalize (wE.setCells (w.heap.size + 2) 0 [.string ⟨#[]⟩, .string ⟨#[]⟩]) = wz at *
      (repeat go_step)
      refine bodyPost_ret (results_cell_two rfl _ _ (w.heap.size + 2) 43 _ (0, 0) _ rfl HR.out Tryz.underlying43 rfl (by kernel_rfl)) rfl ?_
      exact Q2.out H1.out H2.out _ _ ⟨rfl, HO.out⟩
  · have hob : (oc == 0) = false := by rw [beq_eq_false_iff_ne]; exact ho
    rw [hob] at KO
    have H1 := hide ho
    clear ho hob
    go_upto_region 8 with (go_at_call 100; refine (KO.out _).mono ?_; rintro e2 w6 ⟨rfl, ho⟩; replace HL := hon HL ho; replace HR := hon HR ho; replace HO := htr HO ho; clear ho m7 l0 l1 l2 r0 r1 rf KO; have r0 := HR.out.cell 0; have r1 := HR.out.cell 1; simp at r0 r1; have rf := HR.out.frozen)
    clear HL K1 K2 KM HT HMB HN2
    rename World => wE
    (iterate 4 go_step)
    refine wpList_store_mid rfl _ _ _ rfl _ 0 #[.string ⟨#[]⟩, .string ⟨#[]⟩] rfl rfl (blk_there HR.out _ rfl) (by kernel_rfl) (by simp [Value.oneCell']) ?_
    replace HR := hide (show Blk (wE.setCells (w.heap.size + 2) 0 [.string ⟨#[]⟩, .string ⟨#[]⟩]) _ _ #[.string ⟨#[]⟩, .string ⟨#[]⟩] from blk_stored HR.out [.string ⟨#[]⟩, .string ⟨#[]⟩] rfl)
    replace HO := hide (only_stored HO.out (Nat.le_add_right _ 2) [.string ⟨#[]⟩, .string ⟨#[]⟩])
    generalize (wE.setCells (w.heap.size + 2) 0 [.string ⟨#[]⟩, .string ⟨#[]⟩]) = wz at *
    (repeat go_step)
    refine bodyPost_ret (results_cell_two rfl _ _ (w.heap.size + 2) 43 _ (0, 0) _ rfl HR.out Tryz.underlying43 rfl (by kernel_rfl)) rfl ?_
    exact Q1.out H1.out _ _ ⟨rfl, HO.out⟩
end
end Go.Proofs.YtfipdjlalfpbnaaGreatDoor

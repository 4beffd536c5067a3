/-
  Walks and plain words (texts Na1). No condition beyond those that each theorem states.
-/
import Derived.Test.YtfipdjlalfpbnaaGreatDoorP37
namespace Go.Proofs.YtfipdjlalfpbnaaGreatDoor
section
open Go.RowKit Go.Deep

set_option maxRecDepth 100000 in
set_option maxHeartbeats 12800000 in
theorem Answer_walk (w : World) (re st : Nat) (p x4 c h f q : ByteArray) (sd : Nat) (hp : p.size ≤ maxLen) (hx4 : x4.size ≤ maxLen) (hc : c.size ≤ maxLen) (hh : h.size ≤ maxLen) (hf : f.size ≤ maxLen) (hq : q.size ≤ maxLen) (hb : termsB [f, q] = true) (hb2 : pubsB [p, x4] = true) (hb3 : termsB [c, h] = true) (htab : Tab w) (ep uA uB la ke wi em ka kb : ByteArray) (e_ep : pubT f = ep) (e_uA : agreeT f x4 = uA) (e_uB : agreeT f p = uB) (e_la : endA c ep uA uB q = la) (e_ke : endK c ep uA uB q = ke) (e_wi : endW c h ep uA uB q = wi) (e_em : sealN ke ⟨#[48]⟩ wi = em) (e_ka : kdfT 2 la ⟨#[48]⟩ = ka) (e_kb : kdfT 1 la ⟨#[48]⟩ = kb) (Q : Ending → World → Prop) (q1 : madeB [ep, em, ka, kb] = false → ∀ e w', AnsPost 5 #[.int .i64 0, .int .u32 0, .int .u32 0, .int .u64 0, .string ⟨#[]⟩, .string ⟨#[]⟩, .string ⟨#[]⟩, .string ⟨#[]⟩, .string ⟨#[]⟩, .string ⟨#[]⟩, .string ⟨#[]⟩, .string ⟨#[]⟩, .string ⟨#[]⟩] #[.string ⟨#[]⟩, .string ⟨#[]⟩] w e w' → Q e w') (q2 : madeB [ep, em, ka, kb] = true → ∀ e w', AnsPost 0 #[.int .i64 2, .int .u32 (sd : Nat), .int .u32 (re : Nat), .int .u64 0, .string ep, .string ⟨#[]⟩, .string ⟨#[]⟩, .string em, .string ⟨#[]⟩, .string ⟨#[]⟩, .string ⟨#[]⟩, .string ⟨#[48]⟩, .string ⟨#[48]⟩] #[.string ka, .string kb] w e w' → Q e w') : Calls Tryz.prog 44 #[.agg #[.int .u32 (re : Nat), .string p, .int .u64 (st : Nat), .string x4, .string c, .string h], .string f, .string q, .int .u32 sd] w Q := by
  have z_ep : ep.size ≤ maxLen := e_ep ▸ pubT_size _
  have z_uA : uA.size ≤ maxLen := e_uA ▸ agreeT_size _ _
  have z_uB : uB.size ≤ maxLen := e_uB ▸ agreeT_size _ _
  have z_la : la.size ≤ maxLen := e_la ▸ kdfT_size 1 (by omega) _ _
  have z_ke : ke.size ≤ maxLen := e_ke ▸ kdfT_size 3 (by omega) _ _
  have z_wi : wi.size ≤ maxLen := e_wi ▸ hashT_size _ _
  have z_em : em.size ≤ maxLen := e_em ▸ sealN_size _ _ _
  have z_ka : ka.size ≤ maxLen := e_ka ▸ kdfT_size 2 (by omega) _ _
  have z_kb : kb.size ≤ maxLen := e_kb ▸ kdfT_size 1 (by omega) _ _
  have KE := hide (fun W h => public_any W f hf h)
  rw [e_ep] at KE
  unfold MakePost at KE
  have KA := hide (fun W h => Agree_any W f x4 hf hx4 h)
  rw [e_uA] at KA
  unfold MakePost at KA
  have KB := hide (fun W h => Agree_any W f p hf hp h)
  rw [e_uB] at KB
  unfold MakePost at KB
  have KL := hide (fun W ht => end_any W c h ep uA uB q hc hh z_ep z_uA z_uB hq ht)
  rw [e_la] at KL
  rw [e_ke] at KL
  rw [e_wi] at KL
  unfold LastPost at KL
  have KS := hide (fun W h => nseal_any W ke ⟨#[48]⟩ wi z_ke zero_size z_wi h)
  rw [e_em] at KS
  unfold MakePost at KS
  have K2 := hide (fun W h => kdf2_any W la ⟨#[48]⟩ z_la zero_size h)
  rw [e_ka] at K2
  unfold MakePost at K2
  have K1 := hide (fun W h => kdf1_any W la ⟨#[48]⟩ z_la zero_size h)
  rw [e_kb] at K1
  unfold MakePost at K1
  have KM := hide (fun W G hG => made_new4 W G hG ep em ka kb z_ep z_em z_ka z_kb)
  unfold RetB at KM
  have KT := hide (fun W G hG => terms_new2 W G hG f q hf hq)
  have KP := hide (fun W G hG => pubs_new2 W G hG p x4 hp hx4)
  have KT2 := hide (fun W G hG => terms_new2 W G hG c h hc hh)
  unfold RetB at KT KP KT2
  have HDB := hide (((Blk.new w 84 #[.int .u32 (re : Nat), .string p, .int .u64 (st : Nat), .string x4, .string c, .string h]).alloc (.cells #[.int .i64 0, .int .u32 0, .int .u32 0, .int .u64 0, .string ⟨#[]⟩, .string ⟨#[]⟩, .string ⟨#[]⟩, .string ⟨#[]⟩, .string ⟨#[]⟩, .string ⟨#[]⟩, .string ⟨#[]⟩, .string ⟨#[]⟩, .string ⟨#[]⟩] 25)).alloc (.cells #[.string ⟨#[]⟩, .string ⟨#[]⟩] 43))
  have HR1 := hide ((Blk.new (w.alloc (.cells #[.int .u32 (re : Nat), .string p, .int .u64 (st : Nat), .string x4, .string c, .string h] 84)) 25 #[.int .i64 0, .int .u32 0, .int .u32 0, .int .u64 0, .string ⟨#[]⟩, .string ⟨#[]⟩, .string ⟨#[]⟩, .string ⟨#[]⟩, .string ⟨#[]⟩, .string ⟨#[]⟩, .string ⟨#[]⟩, .string ⟨#[]⟩, .string ⟨#[]⟩]).alloc (.cells #[.string ⟨#[]⟩, .string ⟨#[]⟩] 43))
  have HR2 := hide (Blk.new ((w.alloc (.cells #[.int .u32 (re : Nat), .string p, .int .u64 (st : Nat), .string x4, .string c, .string h] 84)).alloc (.cells #[.int .i64 0, .int .u32 0, .int .u32 0, .int .u64 0, .string ⟨#[]⟩, .string ⟨#[]⟩, .string ⟨#[]⟩, .string ⟨#[]⟩, .string ⟨#[]⟩, .string ⟨#[]⟩, .string ⟨#[]⟩, .string ⟨#[]⟩, .string ⟨#[]⟩] 25)) 43 #[.string ⟨#[]⟩, .string ⟨#[]⟩])
  rw [World.size_alloc] at HR1
  rw [World.size_alloc, World.size_alloc] at HR2
  have HO := hide ((((Only.refl [] w).alloc (.cells #[.int .u32 (re : Nat), .string p, .int .u64 (st : Nat), .string x4, .string c, .string h] 84)).alloc (.cells #[.int .i64 0, .int .u32 0, .int .u32 0, .int .u64 0, .string ⟨#[]⟩, .string ⟨#[]⟩, .string ⟨#[]⟩, .string ⟨#[]⟩, .string ⟨#[]⟩, .string ⟨#[]⟩, .string ⟨#[]⟩, .string ⟨#[]⟩, .string ⟨#[]⟩] 25)).alloc (.cells #[.string ⟨#[]⟩, .string ⟨#[]⟩] 43))
  rw [hb] at KT
  rw [hb2] at KP
  rw [hb3] at KT2
  have HT := hide htab
  have Q1 := hide q1
  have Q2 := hide q2
  clear htab hp hx4 hc hh hf hq hb hb2 hb3 q1 q2 z_ep e_ep z_uA e_uA z_uB e_uB z_la e_la z_ke e_ke z_wi e_wi z_em e_em z_ka e_ka z_kb e_kb
  go_enter Tryz.func44, Tryz.ntmps44
  go_upto_region 1 with fail
  generalize (((w.alloc (.cells #[.int .u32 (re : Nat), .string p, .int .u64 (st : Nat), .string x4, .string c, .string h] 84)).alloc (.cells #[.int .i64 0, .int .u32 0, .int .u32 0, .int .u64 0, .string ⟨#[]⟩, .string ⟨#[]⟩, .string ⟨#[]⟩, .string ⟨#[]⟩, .string ⟨#[]⟩, .string ⟨#[]⟩, .string ⟨#[]⟩, .string ⟨#[]⟩, .string ⟨#[]⟩] 25)).alloc (.cells #[.string ⟨#[]⟩, .string ⟨#[]⟩] 43)) = v0 at *
  obtain ⟨d0, d1, d2, d3, d4, d5⟩ := cells6 HDB.out
  go_upto_region 3 with (first
    | (go_at_call 88; (with_reducible refine (KT.out _ _ rfl).mono ?_); rintro e2 wt ⟨rfl, ho⟩; replace HDB := hon HDB ho; replace HR1 := hon HR1 ho; replace HR2 := hon HR2 ho; replace HO := htr HO ho; clear ho; (first | (clear d0 d1 d2 d3 d4 d5) | skip); obtain ⟨d0, d1, d2, d3, d4, d5⟩ := cells6 HDB.out)
    | (go_at_call 89; (with_reducible refine (KP.out _ _ rfl).mono ?_); rintro e2 wp ⟨rfl, ho⟩; replace HDB := hon HDB ho; replace HR1 := hon HR1 ho; replace HR2 := hon HR2 ho; replace HO := htr HO ho; clear ho; (first | (clear d0 d1 d2 d3 d4 d5) | skip); obtain ⟨d0, d1, d2, d3, d4, d5⟩ := cells6 HDB.out)
    | (go_at_call 88; (with_reducible refine (KT2.out _ _ rfl).mono ?_); rintro e2 wu ⟨rfl, ho⟩; replace HDB := hon HDB ho; replace HR1 := hon HR1 ho; replace HR2 := hon HR2 ho; replace HO := htr HO ho; clear ho; (first | (clear d0 d1 d2 d3 d4 d5) | skip); obtain ⟨d0, d1, d2, d3, d4, d5⟩ := cells6 HDB.out))
  clear d0 d1 d2 d3 d4 d5
  go_upto_region 4 with (first
    | (go_at_call 90; (with_reducible refine (KE.out _ (HT.out.only HO.out (by simp))).mono ?_); rintro e2 w1 ⟨rfl, ho⟩; replace HDB := hon HDB ho; replace HR1 := hon HR1 ho; replace HR2 := hon HR2 ho; replace HO := htr HO ho; clear ho))
  go_cut [12] (fun pv w' => ∃ g2, pv = .pointer (some ⟨g2, 0, none⟩) ∧ w1.heap.size ≤ g2 ∧ Hid (Blk w' g2 142 #[.string la, .string ke, .string wi]) ∧ Hid (Only [] w1 w'))
  case first =>
    rename_i JJ KK hJJ hKK
    refine wp_region_held_drew (S := fun W => Only [] w1 W) (by kernel_rfl) (by exact (Only.refl [] w1).drew) (fun hHeld => ?_); generalize w1.drew = wd4 at *
    refine tk 0 ?_; refine tk 1 ?_ (hy := by (intro w hSw; (try dsimp only at hSw); have HDw := HDB.out.only hSw (by simp); obtain ⟨-, -, -, -, d4, -⟩ := cells6 HDw; clear HDw; go_simp; try with_reducible rfl)); refine tk 2 ?_
    refine tk 3 ?_ (hy := by (intro w hSw; (try dsimp only at hSw); have HDw := HDB.out.only hSw (by simp); obtain ⟨-, -, -, -, -, d5⟩ := cells6 HDw; clear HDw; go_simp; try with_reducible rfl)); refine tk 4 ?_; refine tk 5 ?_
    refine tk 6 ?_; refine tk 7 ?_; refine tk 8 ?_ (hy := by (intro w hSw; (try dsimp only at hSw); have HDw := HDB.out.only hSw (by simp); obtain ⟨-, -, -, d3, -⟩ := cells6 HDw; clear HDw; go_simp; try with_reducible rfl))
    refine tk 10 ?_; refine tk 11 ?_; refine tk 12 ?_ (hy := by (intro w hSw; (try dsimp only at hSw); have HDw := HDB.out.only hSw (by simp); obtain ⟨-, d1, -⟩ := cells6 HDw; clear HDw; go_simp; try with_reducible rfl))
    refine tk 14 ?_; refine wpAnyH_ready (rs := [9, 16]) (by kernel_rfl) (by simp) ?_; refine (AllReadyH.cons rfl (fun K hK => ?_) (AllReadyH.cons rfl (fun K hK => ?_) AllReadyH.nil))
    · go_simp; (go_at_call 93; refine (KA.out _ (HT.out.only (HO.out.trans hHeld) (by simp))).mono ?_; rintro e2 w9 ⟨rfl, ho⟩)
      refine hK.out _ _ (by first | exact hHeld.trans ho | exact hHeld.trans (ho.mono (by simp))) (fun hN => ?_); clear hK K ho hHeld; have hHeld := hN; clear hN; (try simp only [zsa, zsb, zsc, Act.put, zsd, zse, zsf])
      refine wpAnyH_ready (rs := [13, 16]) (by kernel_rfl) (by simp) ?_; refine (AllReadyH.cons rfl (fun K hK => ?_) (AllReadyH.cons rfl (fun K hK => ?_) AllReadyH.nil))
      · go_simp; (go_at_call 93; refine (KB.out _ (HT.out.only (HO.out.trans hHeld) (by simp))).mono ?_; rintro e2 w13 ⟨rfl, ho⟩)
        refine hK.out _ _ (by first | exact hHeld.trans ho | exact hHeld.trans (ho.mono (by simp))) (fun hN => ?_); clear hK K ho hHeld; have hHeld := hN; clear hN; (try simp only [zsa, zsb, zsc, Act.put, zsd, zse, zsf])
        refine wpAnyH_ready (rs := [15, 16]) (by kernel_rfl) (by simp) ?_; refine (AllReadyH.cons rfl (fun K hK => ?_) (AllReadyH.cons rfl (fun K hK => ?_) AllReadyH.nil))
        · go_simp; (go_at_call 104; refine (KL.out _ (HT.out.only (HO.out.trans hHeld) (by simp))).mono ?_; rintro e2 w15 ⟨rfl, ho⟩)
          refine hK.out _ _ (by first | exact hHeld.trans ho | exact hHeld.trans (ho.mono (by simp))) (fun hN => ?_); clear hK K ho hHeld; have hHeld := hN; clear hN; (try simp only [zsa, zsb, zsc, Act.put, zsd, zse, zsf])
          refine wpAnyH_ready (rs := [16]) (by kernel_rfl) (by simp) ?_; refine (AllReadyH.cons rfl (fun K hK => ?_) AllReadyH.nil); go_simp; have HNS := hide hHeld.size; refine hK.out _ _ (by exact hHeld.alloc _) (fun hN => ?_)
          clear hK K hHeld; have hHeld := hN; clear hN; (try simp only [zsa, zsb, zsc, Act.put, zsd, zse, zsf]); have HNM := hide (Blk.new w15 142 #[.string ⟨#[]⟩, .string ⟨#[]⟩, .string ⟨#[]⟩])
          generalize (w15.alloc (.cells #[.string ⟨#[]⟩, .string ⟨#[]⟩, .string ⟨#[]⟩] 142)) = w16 at *
          refine wpAnyH_ready (rs := [17]) (by kernel_rfl) (by simp) ?_; refine (AllReadyH.cons rfl (fun K hK => ?_) AllReadyH.nil); rw [if_pos (by rfl)]
          refine wp_store_mid _ _ _ rfl _ _ #[.string la, .string ke, .string wi] rfl rfl (blk_there HNM.out _ rfl) (by kernel_rfl) (by simp [Value.oneCell']) ?_
          have HST := hide (show Blk (w16.setCells _ 0 [.string la, .string ke, .string wi]) _ 142 #[.string la, .string ke, .string wi] from blk_stored HNM.out [.string la, .string ke, .string wi] rfl)
          refine hK.out _ _ (by exact only_stored hHeld HNS.out [.string la, .string ke, .string wi]) (fun hHeldN => ?_); clear hK K hHeld; have hHeld := hHeldN; clear hHeldN; (try simp only [zsa, zsb, zsc, Act.put])
          refine wpAnyH_done (by kernel_rfl) ?_ _; dsimp only [Exit.then]; refine hKK _ _ ?_; go_meet; exact ⟨_, rfl, HNS.out, HST, hide hHeld⟩
        · go_simp; have HNS := hide hHeld.size; refine hK.out _ _ (by exact hHeld.alloc _) (fun hN => ?_); clear hK K hHeld; have hHeld := hN; clear hN; (try simp only [zsa, zsb, zsc, Act.put, zsd, zse, zsf])
          have HNM := hide (Blk.new w13 142 #[.string ⟨#[]⟩, .string ⟨#[]⟩, .string ⟨#[]⟩]); generalize (w13.alloc (.cells #[.string ⟨#[]⟩, .string ⟨#[]⟩, .string ⟨#[]⟩] 142)) = w16 at *
          refine wpAnyH_ready (rs := [15]) (by kernel_rfl) (by simp) ?_; refine (AllReadyH.cons rfl (fun K hK => ?_) AllReadyH.nil); go_simp
          (go_at_call 104; refine (KL.out _ (HT.out.only (HO.out.trans hHeld) (by simp))).mono ?_; rintro e2 w15 ⟨rfl, ho⟩; replace HNM := hon HNM ho)
          refine hK.out _ _ (by first | exact hHeld.trans ho | exact hHeld.trans (ho.mono (by simp))) (fun hN => ?_); clear hK K ho hHeld; have hHeld := hN; clear hN; (try simp only [zsa, zsb, zsc, Act.put, zsd, zse, zsf])
          refine wpAnyH_ready (rs := [17]) (by kernel_rfl) (by simp) ?_; refine (AllReadyH.cons rfl (fun K hK => ?_) AllReadyH.nil); rw [if_pos (by rfl)]
          refine wp_store_mid _ _ _ rfl _ _ #[.string la, .string ke, .string wi] rfl rfl (blk_there HNM.out _ rfl) (by kernel_rfl) (by simp [Value.oneCell']) ?_
          have HST := hide (show Blk (w15.setCells _ 0 [.string la, .string ke, .string wi]) _ 142 #[.string la, .string ke, .string wi] from blk_stored HNM.out [.string la, .string ke, .string wi] rfl)
          refine hK.out _ _ (by exact only_stored hHeld HNS.out [.string la, .string ke, .string wi]) (fun hHeldN => ?_); clear hK K hHeld; have hHeld := hHeldN; clear hHeldN; (try simp only [zsa, zsb, zsc, Act.put])
          refine wpAnyH_done (by kernel_rfl) ?_ _; dsimp only [Exit.then]; refine hKK _ _ ?_; go_meet; exact ⟨_, rfl, HNS.out, HST, hide hHeld⟩
      · go_simp; have HNS := hide hHeld.size; refine hK.out _ _ (by exact hHeld.alloc _) (fun hN => ?_); clear hK K hHeld; have hHeld := hN; clear hN; (try simp only [zsa, zsb, zsc, Act.put, zsd, zse, zsf])
        have HNM := hide (Blk.new w9 142 #[.string ⟨#[]⟩, .string ⟨#[]⟩, .string ⟨#[]⟩]); generalize (w9.alloc (.cells #[.string ⟨#[]⟩, .string ⟨#[]⟩, .string ⟨#[]⟩] 142)) = w16 at *
        refine wpAnyH_ready (rs := [13]) (by kernel_rfl) (by simp) ?_; refine (AllReadyH.cons rfl (fun K hK => ?_) AllReadyH.nil); go_simp
        (go_at_call 93; refine (KB.out _ (HT.out.only (HO.out.trans hHeld) (by simp))).mono ?_; rintro e2 w13 ⟨rfl, ho⟩; replace HNM := hon HNM ho)
        refine hK.out _ _ (by first | exact hHeld.trans ho | exact hHeld.trans (ho.mono (by simp))) (fun hN => ?_); clear hK K ho hHeld; have hHeld := hN; clear hN; (try simp only [zsa, zsb, zsc, Act.put, zsd, zse, zsf])
        refine wpAnyH_ready (rs := [15]) (by kernel_rfl) (by simp) ?_; refine (AllReadyH.cons rfl (fun K hK => ?_) AllReadyH.nil); go_simp
        (go_at_call 104; refine (KL.out _ (HT.out.only (HO.out.trans hHeld) (by simp))).mono ?_; rintro e2 w15 ⟨rfl, ho⟩; replace HNM := hon HNM ho)
        refine hK.out _ _ (by first | exact hHeld.trans ho | exact hHeld.trans (ho.mono (by simp))) (fun hN => ?_); clear hK K ho hHeld; have hHeld := hN; clear hN; (try simp only [zsa, zsb, zsc, Act.put, zsd, zse, zsf])
        refine wpAnyH_ready (rs := [17]) (by kernel_rfl) (by simp) ?_; refine (AllReadyH.cons rfl (fun K hK => ?_) AllReadyH.nil); rw [if_pos (by rfl)]
        refine wp_store_mid _ _ _ rfl _ _ #[.string la, .string ke, .string wi] rfl rfl (blk_there HNM.out _ rfl) (by kernel_rfl) (by simp [Value.oneCell']) ?_
        have HST := hide (show Blk (w15.setCells _ 0 [.string la, .string ke, .string wi]) _ 142 #[.string la, .string ke, .string wi] from blk_stored HNM.out [.string la, .string ke, .string wi] rfl)
        refine hK.out _ _ (by exact only_stored hHeld HNS.out [.string la, .string ke, .string wi]) (fun hHeldN => ?_); clear hK K hHeld; have hHeld := hHeldN; clear hHeldN; (try simp only [zsa, zsb, zsc, Act.put])
        refine wpAnyH_done (by kernel_rfl) ?_ _; dsimp only [Exit.then]; refine hKK _ _ ?_; go_meet; exact ⟨_, rfl, HNS.out, HST, hide hHeld⟩
    · go_simp; have HNS := hide hHeld.size; refine hK.out _ _ (by exact hHeld.alloc _) (fun hN => ?_); clear hK K hHeld; have hHeld := hN; clear hN; (try simp only [zsa, zsb, zsc, Act.put, zsd, zse, zsf])
      have HNM := hide (Blk.new wd4 142 #[.string ⟨#[]⟩, .string ⟨#[]⟩, .string ⟨#[]⟩]); generalize (wd4.alloc (.cells #[.string ⟨#[]⟩, .string ⟨#[]⟩, .string ⟨#[]⟩] 142)) = w16 at *
      refine wpAnyH_ready (rs := [9]) (by kernel_rfl) (by simp) ?_; refine (AllReadyH.cons rfl (fun K hK => ?_) AllReadyH.nil); go_simp
      (go_at_call 93; refine (KA.out _ (HT.out.only (HO.out.trans hHeld) (by simp))).mono ?_; rintro e2 w9 ⟨rfl, ho⟩; replace HNM := hon HNM ho)
      refine hK.out _ _ (by first | exact hHeld.trans ho | exact hHeld.trans (ho.mono (by simp))) (fun hN => ?_); clear hK K ho hHeld; have hHeld := hN; clear hN; (try simp only [zsa, zsb, zsc, Act.put, zsd, zse, zsf])
      refine wpAnyH_ready (rs := [13]) (by kernel_rfl) (by simp) ?_; refine (AllReadyH.cons rfl (fun K hK => ?_) AllReadyH.nil); go_simp
      (go_at_call 93; refine (KB.out _ (HT.out.only (HO.out.trans hHeld) (by simp))).mono ?_; rintro e2 w13 ⟨rfl, ho⟩; replace HNM := hon HNM ho)
      refine hK.out _ _ (by first | exact hHeld.trans ho | exact hHeld.trans (ho.mono (by simp))) (fun hN => ?_); clear hK K ho hHeld; have hHeld := hN; clear hN; (try simp only [zsa, zsb, zsc, Act.put, zsd, zse, zsf])
      refine wpAnyH_ready (rs := [15]) (by kernel_rfl) (by simp) ?_; refine (AllReadyH.cons rfl (fun K hK => ?_) AllReadyH.nil); go_simp
      (go_at_call 104; refine (KL.out _ (HT.out.only (HO.out.trans hHeld) (by simp))).mono ?_; rintro e2 w15 ⟨rfl, ho⟩; replace HNM := hon HNM ho)
      refine hK.out _ _ (by first | exact hHeld.trans ho | exact hHeld.trans (ho.mono (by simp))) (fun hN => ?_); clear hK K ho hHeld; have hHeld := hN; clear hN; (try simp only [zsa, zsb, zsc, Act.put, zsd, zse, zsf])
      refine wpAnyH_ready (rs := [17]) (by kernel_rfl) (by simp) ?_; refine (AllReadyH.cons rfl (fun K hK => ?_) AllReadyH.nil); rw [if_pos (by rfl)]
      refine wp_store_mid _ _ _ rfl _ _ #[.string la, .string ke, .string wi] rfl rfl (blk_there HNM.out _ rfl) (by kernel_rfl) (by simp [Value.oneCell']) ?_
      have HST := hide (show Blk (w15.setCells _ 0 [.string la, .string ke, .string wi]) _ 142 #[.string la, .string ke, .string wi] from blk_stored HNM.out [.string la, .string ke, .string wi] rfl)
      refine hK.out _ _ (by exact only_stored hHeld HNS.out [.string la, .string ke, .string wi]) (fun hHeldN => ?_); clear hK K hHeld; have hHeld := hHeldN; clear hHeldN; (try simp only [zsa, zsb, zsc, Act.put])
      refine wpAnyH_done (by kernel_rfl) ?_ _; dsimp only [Exit.then]; refine hKK _ _ ?_; go_meet; exact ⟨_, rfl, HNS.out, HST, hide hHeld⟩
  obtain ⟨g, rfl, hg2, HL, HO2⟩ := hcut
  replace HDB := hon HDB HO2.out
  replace HR1 := hon HR1 HO2.out
  replace HR2 := hon HR2 HO2.out
  replace HO := htr HO HO2.out
  clear HO2 hg2 KA KB KL KT KP KT2 KE
  rename World => w5
  obtain ⟨l0, l1, l2⟩ := cells3 HL.out
  go_upto_region 6 with (first
    | (go_at_call 94; (with_reducible refine (KS.out _ (HT.out.only HO.out (by simp))).mono ?_); rintro e2 w6 ⟨rfl, ho⟩; replace HDB := hon HDB ho; replace HR1 := hon HR1 ho; replace HR2 := hon HR2 ho; replace HO := htr HO ho; replace HL := hon HL ho; clear ho l0 l1 l2))
  go_cut [14] (fun pv w' => ∃ g2, pv = .pointer (some ⟨g2, 0, none⟩) ∧ w6.heap.size ≤ g2 ∧ Hid (Blk w' g2 43 #[.string ka, .string kb]) ∧ Hid (Only [] w6 w'))
  case first =>
    rename_i JJ KK hJJ hKK
    refine wp_region_held_drew (S := fun W => Only [] w6 W) (by kernel_rfl) (by exact (Only.refl [] w6).drew) (fun hHeld => ?_); generalize w6.drew = wd6 at *
    refine tk 0 ?_; refine tk 1 ?_ (hy := by (intro w hSw; (try dsimp only at hSw); have HLw := HL.out.only hSw (by simp); obtain ⟨l0, -⟩ := cells3 HLw; clear HLw; go_simp; try with_reducible rfl)); refine tk 3 ?_
    refine tk 4 ?_ (hy := by (intro w hSw; (try dsimp only at hSw); have HLw := HL.out.only hSw (by simp); obtain ⟨l0, -⟩ := cells3 HLw; clear HLw; go_simp; try with_reducible rfl))
    refine wpAnyH_ready (rs := [2, 7]) (by kernel_rfl) (by simp) ?_; refine (AllReadyH.cons rfl (fun K hK => ?_) (AllReadyH.cons rfl (fun K hK => ?_) AllReadyH.nil))
    · go_simp; (go_at_call 105; refine (K2.out _ (HT.out.only (HO.out.trans hHeld) (by simp))).mono ?_; rintro e2 w2 ⟨rfl, ho⟩)
      refine hK.out _ _ (by first | exact hHeld.trans ho | exact hHeld.trans (ho.mono (by simp))) (fun hN => ?_); clear hK K ho hHeld; have hHeld := hN; clear hN; (try simp only [zsa, zsb, zsc, Act.put, zsd, zse, zsf])
      refine wpAnyH_ready (rs := [5, 7]) (by kernel_rfl) (by simp) ?_; refine (AllReadyH.cons rfl (fun K hK => ?_) (AllReadyH.cons rfl (fun K hK => ?_) AllReadyH.nil))
      · go_simp; (go_at_call 105; refine (K1.out _ (HT.out.only (HO.out.trans hHeld) (by simp))).mono ?_; rintro e2 w5 ⟨rfl, ho⟩)
        refine hK.out _ _ (by first | exact hHeld.trans ho | exact hHeld.trans (ho.mono (by simp))) (fun hN => ?_); clear hK K ho hHeld; have hHeld := hN; clear hN; (try simp only [zsa, zsb, zsc, Act.put, zsd, zse, zsf])
        refine tk 6 ?_; refine wpAnyH_ready (rs := [7]) (by kernel_rfl) (by simp) ?_; refine (AllReadyH.cons rfl (fun K hK => ?_) AllReadyH.nil); go_simp; have HNS := hide hHeld.size
        refine hK.out _ _ (by exact hHeld.alloc _) (fun hN => ?_); clear hK K hHeld; have hHeld := hN; clear hN; (try simp only [zsa, zsb, zsc, Act.put, zsd, zse, zsf])
        have HNM := hide (Blk.new w5 43 #[.string ⟨#[]⟩, .string ⟨#[]⟩]); generalize (w5.alloc (.cells #[.string ⟨#[]⟩, .string ⟨#[]⟩] 43)) = w7 at *
        refine wpAnyH_ready (rs := [8]) (by kernel_rfl) (by simp) ?_; refine (AllReadyH.cons rfl (fun K hK => ?_) AllReadyH.nil); rw [if_pos (by rfl)]
        refine wp_store_mid _ _ _ rfl _ _ #[.string ka, .string kb] rfl rfl (blk_there HNM.out _ rfl) (by kernel_rfl) (by simp [Value.oneCell']) ?_
        have HST := hide (show Blk (w7.setCells _ 0 [.string ka, .string kb]) _ 43 #[.string ka, .string kb] from blk_stored HNM.out [.string ka, .string kb] rfl)
        refine hK.out _ _ (by exact only_stored hHeld HNS.out [.string ka, .string kb]) (fun hHeldN => ?_); clear hK K hHeld; have hHeld := hHeldN; clear hHeldN; (try simp only [zsa, zsb, zsc, Act.put])
        refine wpAnyH_done (by kernel_rfl) ?_ _; dsimp only [Exit.then]; refine hKK _ _ ?_; go_meet; exact ⟨_, rfl, HNS.out, HST, hide hHeld⟩
      · go_simp; have HNS := hide hHeld.size; refine hK.out _ _ (by exact hHeld.alloc _) (fun hN => ?_); clear hK K hHeld; have hHeld := hN; clear hN; (try simp only [zsa, zsb, zsc, Act.put, zsd, zse, zsf])
        have HNM := hide (Blk.new w2 43 #[.string ⟨#[]⟩, .string ⟨#[]⟩]); generalize (w2.alloc (.cells #[.string ⟨#[]⟩, .string ⟨#[]⟩] 43)) = w7 at *
        refine wpAnyH_ready (rs := [5]) (by kernel_rfl) (by simp) ?_; refine (AllReadyH.cons rfl (fun K hK => ?_) AllReadyH.nil); go_simp
        (go_at_call 105; refine (K1.out _ (HT.out.only (HO.out.trans hHeld) (by simp))).mono ?_; rintro e2 w5 ⟨rfl, ho⟩; replace HNM := hon HNM ho)
        refine hK.out _ _ (by first | exact hHeld.trans ho | exact hHeld.trans (ho.mono (by simp))) (fun hN => ?_); clear hK K ho hHeld; have hHeld := hN; clear hN; (try simp only [zsa, zsb, zsc, Act.put, zsd, zse, zsf])
        refine tk 6 ?_; refine wpAnyH_ready (rs := [8]) (by kernel_rfl) (by simp) ?_; refine (AllReadyH.cons rfl (fun K hK => ?_) AllReadyH.nil); rw [if_pos (by rfl)]
        refine wp_store_mid _ _ _ rfl _ _ #[.string ka, .string kb] rfl rfl (blk_there HNM.out _ rfl) (by kernel_rfl) (by simp [Value.oneCell']) ?_
        have HST := hide (show Blk (w5.setCells _ 0 [.string ka, .string kb]) _ 43 #[.string ka, .string kb] from blk_stored HNM.out [.string ka, .string kb] rfl)
        refine hK.out _ _ (by exact only_stored hHeld HNS.out [.string ka, .string kb]) (fun hHeldN => ?_); clear hK K hHeld; have hHeld := hHeldN; clear hHeldN; (try simp only [zsa, zsb, zsc, Act.put])
        refine wpAnyH_done (by kernel_rfl) ?_ _; dsimp only [Exit.then]; refine hKK _ _ ?_; go_meet; exact ⟨_, rfl, HNS.out, HST, hide hHeld⟩
    · go_simp; have HNS := hide hHeld.size; refine hK.out _ _ (by exact hHeld.alloc _) (fun hN => ?_); clear hK K hHeld; have hHeld := hN; clear hN; (try simp only [zsa, zsb, zsc, Act.put, zsd, zse, zsf])
      have HNM := hide (Blk.new wd6 43 #[.string ⟨#[]⟩, .string ⟨#[]⟩]); generalize (wd6.alloc (.cells #[.string ⟨#[]⟩, .string ⟨#[]⟩] 43)) = w7 at *
      refine wpAnyH_ready (rs := [2]) (by kernel_rfl) (by simp) ?_; refine (AllReadyH.cons rfl (fun K hK => ?_) AllReadyH.nil); go_simp
      (go_at_call 105; refine (K2.out _ (HT.out.only (HO.out.trans hHeld) (by simp))).mono ?_; rintro e2 w2 ⟨rfl, ho⟩; replace HNM := hon HNM ho)
      refine hK.out _ _ (by first | exact hHeld.trans ho | exact hHeld.trans (ho.mono (by simp))) (fun hN => ?_); clear hK K ho hHeld; have hHeld := hN; clear hN; (try simp only [zsa, zsb, zsc, Act.put, zsd, zse, zsf])
      refine wpAnyH_ready (rs := [5]) (by kernel_rfl) (by simp) ?_; refine (AllReadyH.cons rfl (fun K hK => ?_) AllReadyH.nil); go_simp
      (go_at_call 105; refine (K1.out _ (HT.out.only (HO.out.trans hHeld) (by simp))).mono ?_; rintro e2 w5 ⟨rfl, ho⟩; replace HNM := hon HNM ho)
      refine hK.out _ _ (by first | exact hHeld.trans ho | exact hHeld.trans (ho.mono (by simp))) (fun hN => ?_); clear hK K ho hHeld; have hHeld := hN; clear hN; (try simp only [zsa, zsb, zsc, Act.put, zsd, zse, zsf])
      refine tk 6 ?_; refine wpAnyH_ready (rs := [8]) (by kernel_rfl) (by simp) ?_; refine (AllReadyH.cons rfl (fun K hK => ?_) AllReadyH.nil); rw [if_pos (by rfl)]
      refine wp_store_mid _ _ _ rfl _ _ #[.string ka, .string kb] rfl rfl (blk_there HNM.out _ rfl) (by kernel_rfl) (by simp [Value.oneCell']) ?_
      have HST := hide (show Blk (w5.setCells _ 0 [.string ka, .string kb]) _ 43 #[.string ka, .string kb] from blk_stored HNM.out [.string ka, .string kb] rfl)
      refine hK.out _ _ (by exact only_stored hHeld HNS.out [.string ka, .string kb]) (fun hHeldN => ?_); clear hK K hHeld; have hHeld := hHeldN; clear hHeldN; (try simp only [zsa, zsb, zsc, Act.put])
      refine wpAnyH_done (by kernel_rfl) ?_ _; dsimp only [Exit.then]; refine hKK _ _ ?_; go_meet; exact ⟨_, rfl, HNS.out, HST, hide hHeld⟩
  obtain ⟨g3, rfl, hg2, HK, HO2⟩ := hcut
  have HGN := hide (show w.heap.size + 1 + 1 < g3 from Nat.lt_of_lt_of_le HR2.out.lt hg2)
  replace HDB := hon HDB HO2.out
  replace HR1 := hon HR1 HO2.out
  replace HR2 := hon HR2 HO2.out
  replace HO := htr HO HO2.out
  clear HO2 hg2 HL K1 K2 KS
  rename World => w9
  obtain ⟨k0, k1⟩ := cells2 HK.out
  rcases Bool.eq_false_or_eq_true (madeB [ep, em, ka, kb]) with hm | hm
  · rw [hm] at KM
    have H1 := hide hm
    clear hm
    go_upto_region 9 with (first
      | (go_at_call 96; (with_reducible refine (KM.out _ _ rfl).mono ?_); rintro e2 wm ⟨rfl, ho⟩; replace HDB := hon HDB ho; replace HR1 := hon HR1 ho; replace HR2 := hon HR2 ho; replace HO := htr HO ho; replace HK := hon HK ho; clear ho k0 k1))
    clear KM HT
    obtain ⟨d0, -⟩ := cells6 HDB.out
    go_upto_region 10 with fail
    have HMS := hide (Blk.new wm 25 #[.int .i64 2, .int .u32 (sd : Nat), .int .u32 (re : Nat), .int .u64 0, .string ep, .string ⟨#[]⟩, .string ⟨#[]⟩, .string em, .string ⟨#[]⟩, .string ⟨#[]⟩, .string ⟨#[]⟩, .string ⟨#[48]⟩, .string ⟨#[48]⟩])
    have HMG := hide (show w.heap.size + 1 + 1 < wm.heap.size from HR2.out.lt)
    clear d0
    replace HR1 := hide (HR1.out.alloc (.cells #[.int .i64 2, .int .u32 (sd : Nat), .int .u32 (re : Nat), .int .u64 0, .string ep, .string ⟨#[]⟩, .string ⟨#[]⟩, .string em, .string ⟨#[]⟩, .string ⟨#[]⟩, .string ⟨#[]⟩, .string ⟨#[48]⟩, .string ⟨#[48]⟩] 25)).drew
    replace HR2 := hide (HR2.out.alloc (.cells #[.int .i64 2, .int .u32 (sd : Nat), .int .u32 (re : Nat), .int .u64 0, .string ep, .string ⟨#[]⟩, .string ⟨#[]⟩, .string em, .string ⟨#[]⟩, .string ⟨#[]⟩, .string ⟨#[]⟩, .string ⟨#[48]⟩, .string ⟨#[48]⟩] 25)).drew
    replace HK := hide (HK.out.alloc (.cells #[.int .i64 2, .int .u32 (sd : Nat), .int .u32 (re : Nat), .int .u64 0, .string ep, .string ⟨#[]⟩, .string ⟨#[]⟩, .string em, .string ⟨#[]⟩, .string ⟨#[]⟩, .string ⟨#[]⟩, .string ⟨#[48]⟩, .string ⟨#[48]⟩] 25))
    replace HO := hide (HO.out.alloc (.cells #[.int .i64 2, .int .u32 (sd : Nat), .int .u32 (re : Nat), .int .u64 0, .string ep, .string ⟨#[]⟩, .string ⟨#[]⟩, .string em, .string ⟨#[]⟩, .string ⟨#[]⟩, .string ⟨#[]⟩, .string ⟨#[48]⟩, .string ⟨#[48]⟩] 25))
    have hmg := HMG.out
    generalize (wm.alloc (.cells #[.int .i64 2, .int .u32 (sd : Nat), .int .u32 (re : Nat), .int .u64 0, .string ep, .string ⟨#[]⟩, .string ⟨#[]⟩, .string em, .string ⟨#[]⟩, .string ⟨#[]⟩, .string ⟨#[]⟩, .string ⟨#[48]⟩, .string ⟨#[48]⟩] 25)) = w13 at *
    refine wp_region_held_drew (S := fun W => Only [w.heap.size + 1, w.heap.size + 1 + 1] w13 W) (by kernel_rfl) (by exact (Only.refl [w.heap.size + 1, w.heap.size + 1 + 1] w13).drew) (fun hHeld => ?_); generalize w13.drew = wd10 at *
    refine tk 0 ?_ (hy := by (intro w hSw; (try dsimp only at hSw); have HMw := HMS.out.only hSw (by simp; omega); obtain ⟨m0, m1, m2, m3, m4, m5, m6, m7, m8, m9, m10, m11, m12⟩ := cells13 HMw; clear HMw; go_simp; try with_reducible rfl))
    refine tk 1 ?_ (hy := by (intro w hSw; (try dsimp only at hSw); have HKw := HK.out.only hSw (by have := HGN.out; simp; omega); obtain ⟨k0, k1⟩ := cells2 HKw; clear HKw; go_simp; try with_reducible rfl))
    refine wpAnyH_ready (rs := [2]) (by kernel_rfl) (by simp) ?_; refine (AllReadyH.cons rfl (fun K hK => ?_) AllReadyH.nil); rw [if_pos (by rfl)]
    refine wp_store_mid _ _ _ rfl _ _ #[.int .i64 2, .int .u32 (sd : Nat), .int .u32 (re : Nat), .int .u64 0, .string ep, .string ⟨#[]⟩, .string ⟨#[]⟩, .string em, .string ⟨#[]⟩, .string ⟨#[]⟩, .string ⟨#[]⟩, .string ⟨#[48]⟩, .string ⟨#[48]⟩] rfl rfl (blk_there HR1.out _ rfl) (by kernel_rfl) (by simp [Value.oneCell']) ?_
    replace HR1 := hide (show Blk (wd10.setCells (w.heap.size + 1) 0 [.int .i64 2, .int .u32 (sd : Nat), .int .u32 (re : Nat), .int .u64 0, .string ep, .string ⟨#[]⟩, .string ⟨#[]⟩, .string em, .string ⟨#[]⟩, .string ⟨#[]⟩, .string ⟨#[]⟩, .string ⟨#[48]⟩, .string ⟨#[48]⟩]) _ _ #[.int .i64 2, .int .u32 (sd : Nat), .int .u32 (re : Nat), .int .u64 0, .string ep, .string ⟨#[]⟩, .string ⟨#[]⟩, .string em, .string ⟨#[]⟩, .string ⟨#[]⟩, .string ⟨#[]⟩, .string ⟨#[48]⟩, .string ⟨#[48]⟩] from blk_stored HR1.out [.int .i64 2, .int .u32 (sd : Nat), .int .u32 (re : Nat), .int .u64 0, .string ep, .string ⟨#[]⟩, .string ⟨#[]⟩, .string em, .string ⟨#[]⟩, .string ⟨#[]⟩, .string ⟨#[]⟩, .string ⟨#[48]⟩, .string ⟨#[48]⟩] rfl)
    replace HR2 := hide (blk_far HR2.out (Nat.ne_of_lt (Nat.lt_succ_self _)) [.int .i64 2, .int .u32 (sd : Nat), .int .u32 (re : Nat), .int .u64 0, .string ep, .string ⟨#[]⟩, .string ⟨#[]⟩, .string em, .string ⟨#[]⟩, .string ⟨#[]⟩, .string ⟨#[]⟩, .string ⟨#[48]⟩, .string ⟨#[48]⟩])
    refine hK.out _ _ (by exact Only.setCells (.inl (by simp)) 0 [.int .i64 2, .int .u32 (sd : Nat), .int .u32 (re : Nat), .int .u64 0, .string ep, .string ⟨#[]⟩, .string ⟨#[]⟩, .string em, .string ⟨#[]⟩, .string ⟨#[]⟩, .string ⟨#[]⟩, .string ⟨#[48]⟩, .string ⟨#[48]⟩] hHeld) (fun hHeldN => ?_)
    clear hK K hHeld; have hHeld := hHeldN; clear hHeldN; (try simp only [zsa, zsb, zsc, Act.put])
    generalize (wd10.setCells (w.heap.size + 1) 0 [.int .i64 2, .int .u32 (sd : Nat), .int .u32 (re : Nat), .int .u64 0, .string ep, .string ⟨#[]⟩, .string ⟨#[]⟩, .string em, .string ⟨#[]⟩, .string ⟨#[]⟩, .string ⟨#[]⟩, .string ⟨#[48]⟩, .string ⟨#[48]⟩]) = ws1 at *
    refine wpAnyH_ready (rs := [3]) (by kernel_rfl) (by simp) ?_; refine (AllReadyH.cons rfl (fun K hK => ?_) AllReadyH.nil); rw [if_pos (by rfl)]
    refine wp_store_mid _ _ _ rfl _ _ #[.string ka, .string kb] rfl rfl (blk_there HR2.out _ rfl) (by kernel_rfl) (by simp [Value.oneCell']) ?_
    replace HR2 := hide (show Blk (ws1.setCells (w.heap.size + 1 + 1) 0 [.string ka, .string kb]) _ _ #[.string ka, .string kb] from blk_stored HR2.out [.string ka, .string kb] rfl)
    replace HR1 := hide (blk_far HR1.out (Nat.ne_of_gt (Nat.lt_succ_self _)) [.string ka, .string kb]); refine hK.out _ _ (by exact Only.setCells (.inl (by simp)) 0 [.string ka, .string kb] hHeld) (fun hHeldN => ?_); clear hK K hHeld
    have hHeld := hHeldN; clear hHeldN; (try simp only [zsa, zsb, zsc, Act.put]); generalize (ws1.setCells (w.heap.size + 1 + 1) 0 [.string ka, .string kb]) = ws2 at *
    refine tk 4 ?_; refine wpAnyH_done (by kernel_rfl) ?_ _
    (repeat go_step)
    refine bodyPost_ret (results_two_cells rfl _ _ (w.heap.size + 1) (w.heap.size + 1 + 1) 25 43 _ _ (0, 0) (0, 0) _ _ rfl rfl HR1.out HR2.out Tryz.underlying25 rfl (by kernel_rfl) Tryz.underlying43 rfl (by kernel_rfl)) rfl ?_
    exact Q2.out H1.out _ _ ⟨rfl, ((HO.out.mono (by simp)).trans hHeld).mono (by intro x hx; right; simp at hx; omega)⟩
  · rw [hm] at KM
    have H1 := hide hm
    clear hm
    go_upto_region 8 with (first
      | (go_at_call 96; (with_reducible refine (KM.out _ _ rfl).mono ?_); rintro e2 wm ⟨rfl, ho⟩; replace HDB := hon HDB ho; replace HR1 := hon HR1 ho; replace HR2 := hon HR2 ho; replace HO := htr HO ho; replace HK := hon HK ho; clear ho k0 k1))
    clear KM HK HGN HDB HT
    (iterate 7 go_step)
    refine wpList_store_mid rfl _ _ _ rfl _ 0 #[.int .i64 0, .int .u32 0, .int .u32 0, .int .u64 0, .string ⟨#[]⟩, .string ⟨#[]⟩, .string ⟨#[]⟩, .string ⟨#[]⟩, .string ⟨#[]⟩, .string ⟨#[]⟩, .string ⟨#[]⟩, .string ⟨#[]⟩, .string ⟨#[]⟩] rfl rfl (blk_there HR1.out _ rfl) (by kernel_rfl) (by simp [Value.oneCell']) ?_
    replace HR1 := hide (show Blk (wm.setCells (w.heap.size + 1) 0 [.int .i64 0, .int .u32 0, .int .u32 0, .int .u64 0, .string ⟨#[]⟩, .string ⟨#[]⟩, .string ⟨#[]⟩, .string ⟨#[]⟩, .string ⟨#[]⟩, .string ⟨#[]⟩, .string ⟨#[]⟩, .string ⟨#[]⟩, .string ⟨#[]⟩]) _ _ #[.int .i64 0, .int .u32 0, .int .u32 0, .int .u64 0, .string ⟨#[]⟩, .string ⟨#[]⟩, .string ⟨#[]⟩, .string ⟨#[]⟩, .string ⟨#[]⟩, .string ⟨#[]⟩, .string ⟨#[]⟩, .string ⟨#[]⟩, .string ⟨#[]⟩] from blk_stored HR1.out [.int .i64 0, .int .u32 0, .int .u32 0, .int .u64 0, .string ⟨#[]⟩, .string ⟨#[]⟩, .string ⟨#[]⟩, .string ⟨#[]⟩, .string ⟨#[]⟩, .string ⟨#[]⟩, .string ⟨#[]⟩, .string ⟨#[]⟩, .string ⟨#[]⟩] rfl)
    replace HR2 := hide (blk_far HR2.out (Nat.ne_of_lt (Nat.lt_succ_self _)) [.int .i64 0, .int .u32 0, .int .u32 0, .int .u64 0, .string ⟨#[]⟩, .string ⟨#[]⟩, .string ⟨#[]⟩, .string ⟨#[]⟩, .string ⟨#[]⟩, .string ⟨#[]⟩, .string ⟨#[]⟩, .string ⟨#[]⟩, .string ⟨#[]⟩])
    replace HO := hide (only_stored HO.out (Nat.le_succ _) [.int .i64 0, .int .u32 0, .int .u32 0, .int .u64 0, .string ⟨#[]⟩, .string ⟨#[]⟩, .string ⟨#[]⟩, .string ⟨#[]⟩, .string ⟨#[]⟩, .string ⟨#[]⟩, .string ⟨#[]⟩, .string ⟨#[]⟩, .string ⟨#[]⟩])
    generalize (wm.setCells (w.heap.size + 1) 0 [.int .i64 0, .int .u32 0, .int .u32 0, .int .u64 0, .string ⟨#[]⟩, .string ⟨#[]⟩, .string ⟨#[]⟩, .string ⟨#[]⟩, .string ⟨#[]⟩, .string ⟨#[]⟩, .string ⟨#[]⟩, .string ⟨#[]⟩, .string ⟨#[]⟩]) = wy at *
    refine wpList_store_mid rfl _ _ _ rfl _ 0 #[.string ⟨#[]⟩, .string ⟨#[]⟩] rfl rfl (blk_there HR2.out _ rfl) (by kernel_rfl) (by simp [Value.oneCell']) ?_
    replace HR2 := hide (show Blk (wy.setCells (w.heap.size + 1 + 1) 0 [.string ⟨#[]⟩, .string ⟨#[]⟩]) _ _ #[.string ⟨#[]⟩, .string ⟨#[]⟩] from blk_stored HR2.out [.string ⟨#[]⟩, .string ⟨#[]⟩] rfl)
    replace HR1 := hide (blk_far HR1.out (Nat.ne_of_gt (Nat.lt_succ_self _)) [.string ⟨#[]⟩, .string ⟨#[]⟩])
    replace HO := hide (only_stored HO.out (Nat.le_succ_of_le (Nat.le_succ _)) [.string ⟨#[]⟩, .string ⟨#[]⟩])
    generalize (wy.setCells (w.heap.size + 1 + 1) 0 [.string ⟨#[]⟩, .string ⟨#[]⟩]) = wz at *
    (iterate 8 go_step)
    refine bodyPost_ret (results_two_cells rfl _ _ (w.heap.size + 1) (w.heap.size + 1 + 1) 25 43 _ _ (0, 0) (0, 0) _ _ rfl rfl HR1.out HR2.out Tryz.underlying25 rfl (by kernel_rfl) Tryz.underlying43 rfl (by kernel_rfl)) rfl ?_
    exact Q1.out H1.out _ _ ⟨rfl, HO.out⟩
end
end Go.Proofs.YtfipdjlalfpbnaaGreatDoor

/-
  Walks and plain words (texts Nl5). No condition beyond those that each theorem states.
-/
import Derived.Test.YtfipdjlalfpbnaaGreatDoorP27
import Derived.Test.YtfipdjlalfpbnaaGreatDoorP31
import Derived.Test.YtfipdjlalfpbnaaGreatDoorQ02
import Derived.Test.YtfipdjlalfpbnaaGreatDoorQ03
namespace Go.Proofs.YtfipdjlalfpbnaaGreatDoor
section
open Go.RowKit Go.Deep

set_option maxRecDepth 100000 in
set_option maxHeartbeats 12800000 in
theorem nb_yes1 (w : World) (s e pb o : ByteArray) (n sd : Nat) (hs : s.size ≤ maxLen) (he : e.size ≤ maxLen) (hpz : pb.size ≤ maxLen) (ho : o.size ≤ maxLen) (hn : n < 18446744073709551616) (hsd : sd < 4294967296) (htab : Tab w) (r : ByteArray) (hb : bigB [s, e, pb, o] = false) (hpb : pb = pubT r) (hpp : parseV pb = some (5, 0, [], [r])) (ts : Tn 200 s) (te : Tn 200 e) (tr : Tn 200 r) (h3 : isV o = false) : Calls Tryz.prog 6 #[.string s, .string e, .string pb, .string o, .int .u64 n, .int .u32 sd] w fun e' w' => e' = .returned (.bool true) ∧ Only [] w w' := by
  obtain ⟨ep, cA, hA, uA, kA, cB, ps, sA, hB, uB, kB, cC, nb, sB, hC, B⟩ := begE s e (pubT r) n
  have KAW := hide (fun W h => awake10 W h)
  have KBG := hide (fun W G hG => big10_new4 W G hG s e pb o hs he hpz ho)
  unfold RetB at KBG
  rw [hb] at KBG
  have KI1 := hide (fun W => isR_all W s hs)
  have KI2 := hide (fun W => isR_all W e he)
  have KI3 := hide (fun W => isR_all W o ho)
  unfold RetB at KI1 KI2 KI3
  rw [show (parseV s).isSome = true from ts.1] at KI1
  rw [show (parseV e).isSome = true from te.1] at KI2
  have KRD := hide (fun W => readR_pub W pb r hpz hpp)
  have KB : Hid (∀ W, Tab W → Calls Tryz.prog 38 #[.string s, .string e, .string pb, .int .u64 n, .int .u32 sd] W (BeginPost 0 #[.int .i64 1, .int .u32 (sd : Nat), .int .u32 0, .int .u64 0, .string ep, .string sA, .string sB, .string ⟨#[]⟩, .string ⟨#[]⟩, .string ⟨#[]⟩, .string ⟨#[]⟩, .string ⟨#[48]⟩, .string ⟨#[48]⟩] #[.int .u32 (sd : Nat), .string e, .string cC, .string hC] W)) := hide (fun W ht => by
    have h := Begin_good (sd := sd) B ts te tr hn W ht
    rw [← hpb] at h
    exact h)
  have KRB : Hid (∀ W, Calls Tryz.prog 40 #[.string s, .string e, .string pb, .int .u64 n, .int .u32 sd] W fun e' w' => e' = .returned (.tuple #[.agg #[.int .i64 1, .int .u32 (sd : Nat), .int .u32 0, .int .u64 0, .string ep, .string sA, .string sB, .string ⟨#[]⟩, .string ⟨#[]⟩, .string ⟨#[]⟩, .string ⟨#[]⟩, .string ⟨#[48]⟩, .string ⟨#[48]⟩], .agg #[.string cC, .string hC]]) ∧ Only [] W w') := hide (fun W => by
    have h := BeginR_any W s e pb n sd hs he hpz hn
    rw [hpb, B.is] at h
    rw [hpb]
    exact h)
  have KH : Hid (∀ W, Tab W → Calls Tryz.prog 41 #[.string r, .agg #[.int .i64 1, .int .u32 (sd : Nat), .int .u32 0, .int .u64 0, .string ep, .string sA, .string sB, .string ⟨#[]⟩, .string ⟨#[]⟩, .string ⟨#[]⟩, .string ⟨#[]⟩, .string ⟨#[48]⟩, .string ⟨#[48]⟩]] W (HeaPost 0 #[.int .u32 (sd : Nat), .string ps, .int .u64 (n : Nat), .string ep, .string cC, .string hC] W)) := hide (fun W ht => Hear_good B ts te tr hn hsd W ht)
  have KPU : Hid (∀ W, Calls Tryz.prog 42 #[.string s] W (MakePost ps W)) := hide (fun W => by
    have h : Calls Tryz.prog 42 #[.string s] W (MakePost (pubT s) W) := PubR_any W s hs
    rw [B.e6] at h
    exact h)
  unfold BeginPost at KB
  unfold HeaPost at KH
  unfold MakePost at KPU
  have hmd : ∀ W, (binOp .neq 25 (.agg #[.int .i64 1, .int .u32 (sd : Nat), .int .u32 0, .int .u64 0, .string ep, .string sA, .string sB, .string ⟨#[]⟩, .string ⟨#[]⟩, .string ⟨#[]⟩, .string ⟨#[]⟩, .string ⟨#[48]⟩, .string ⟨#[48]⟩]) (.agg #[.int .i64 1, .int .u32 (sd : Nat), .int .u32 0, .int .u64 0, .string ep, .string sA, .string sB, .string ⟨#[]⟩, .string ⟨#[]⟩, .string ⟨#[]⟩, .string ⟨#[]⟩, .string ⟨#[48]⟩, .string ⟨#[48]⟩])).run Tryz.prog W = .ok (.bool false) W := fun W => msg_diff (Mg.mk 1 sd 0 0 ep sA sB ⟨#[]⟩ ⟨#[]⟩ ⟨#[]⟩ ⟨#[]⟩ ⟨#[48]⟩ ⟨#[48]⟩) W
  have hsd2 : ∀ W, (binOp .neq 72 (.agg #[.int .u32 (sd : Nat), .string e, .string cC, .string hC]) (.agg #[.int .u32 (sd : Nat), .string e, .string cC, .string hC])).run Tryz.prog W = .ok (.bool false) W := fun W => start_diff sd e cC hC W
  have hhd : ∀ W, (binOp .neq 84 (.agg #[.int .u32 (sd : Nat), .string ps, .int .u64 (n : Nat), .string ep, .string cC, .string hC]) (.agg #[.int .u32 (sd : Nat), .string ps, .int .u64 (n : Nat), .string ep, .string cC, .string hC])).run Tryz.prog W = .ok (.bool false) W := fun W => heard_diff sd ps n ep cC hC W
  have HT := hide htab
  unfold isV at h3
  rw [h3] at KI3
  clear h3
  clear hs he hpz ho hn hsd htab hb hpb hpp ts te tr B
  go_enter Tryz.func6, Tryz.ntmps6
  go_upto_region 6 with (first
    | (go_at_call 36; refine (KAW.out _ HT.out).mono ?_; rintro e2 wa ⟨rfl, ho⟩; have HO := hide ho; clear ho KAW)
    | (go_at_call 37; (with_reducible refine (KBG.out _ _ rfl).mono ?_); rintro e2 wg ⟨rfl, ho⟩; replace HO := htr HO ho; clear ho KBG)
    | (go_at_call 38; refine (KB.out _ (HT.out.only HO.out (by simp))).mono ?_; rintro e2 wb ⟨rfl, ho⟩; replace HO := htr HO ho; clear ho KB))
  have HM := hide (Blk.new wb 25 #[.int .i64 1, .int .u32 (sd : Nat), .int .u32 0, .int .u64 0, .string ep, .string sA, .string sB, .string ⟨#[]⟩, .string ⟨#[]⟩, .string ⟨#[]⟩, .string ⟨#[]⟩, .string ⟨#[48]⟩, .string ⟨#[48]⟩])
  have HS := hide (Blk.new (wb.alloc (.cells #[.int .i64 1, .int .u32 (sd : Nat), .int .u32 0, .int .u64 0, .string ep, .string sA, .string sB, .string ⟨#[]⟩, .string ⟨#[]⟩, .string ⟨#[]⟩, .string ⟨#[]⟩, .string ⟨#[48]⟩, .string ⟨#[48]⟩] 25)) 72 #[.int .u32 (sd : Nat), .string e, .string cC, .string hC])
  replace HO := hide (HO.out.alloc (.cells #[.int .i64 1, .int .u32 (sd : Nat), .int .u32 0, .int .u64 0, .string ep, .string sA, .string sB, .string ⟨#[]⟩, .string ⟨#[]⟩, .string ⟨#[]⟩, .string ⟨#[]⟩, .string ⟨#[48]⟩, .string ⟨#[48]⟩] 25))
  replace HM := hide (HM.out.alloc (.cells #[.int .u32 (sd : Nat), .string e, .string cC, .string hC] 72))
  replace HO := hide (HO.out.alloc (.cells #[.int .u32 (sd : Nat), .string e, .string cC, .string hC] 72))
  rw [World.size_alloc] at HS
  generalize ((wb.alloc (.cells #[.int .i64 1, .int .u32 (sd : Nat), .int .u32 0, .int .u64 0, .string ep, .string sA, .string sB, .string ⟨#[]⟩, .string ⟨#[]⟩, .string ⟨#[]⟩, .string ⟨#[]⟩, .string ⟨#[48]⟩, .string ⟨#[48]⟩] 25)).alloc (.cells #[.int .u32 (sd : Nat), .string e, .string cC, .string hC] 72)) = w2 at *
  obtain ⟨gm, hgm⟩ : ∃ g, g = wb.heap.size := ⟨_, rfl⟩
  rw [← hgm] at HM HS ⊢
  clear hgm
  go_upto_region 7 with (go_at_call 39; refine (KRD.out _).mono ?_; rintro e2 wr ⟨A1, n1, c1, gp, op, c2, rfl, ho, HP⟩; replace HM := hon HM ho; replace HS := hon HS ho; replace HO := htr HO ho; clear ho KRD)
  replace HP := hide HP
  have HQ := hide (Only.refl [] wr)
  have HN := hide (Blk.new wr 77 #[.int .i64 5, .int .u64 0, .slice A1 n1 c1, .slice (some ⟨gp, op, none⟩) 1 c2])
  replace HM := hide (HM.out.alloc (.cells #[.int .i64 5, .int .u64 0, .slice A1 n1 c1, .slice (some ⟨gp, op, none⟩) 1 c2] 77))
  replace HS := hide (HS.out.alloc (.cells #[.int .i64 5, .int .u64 0, .slice A1 n1 c1, .slice (some ⟨gp, op, none⟩) 1 c2] 77))
  replace HO := hide (HO.out.alloc (.cells #[.int .i64 5, .int .u64 0, .slice A1 n1 c1, .slice (some ⟨gp, op, none⟩) 1 c2] 77))
  replace HQ := hide (HQ.out.alloc (.cells #[.int .i64 5, .int .u64 0, .slice A1 n1 c1, .slice (some ⟨gp, op, none⟩) 1 c2] 77))
  generalize (wr.alloc (.cells #[.int .i64 5, .int .u64 0, .slice A1 n1 c1, .slice (some ⟨gp, op, none⟩) 1 c2] 77)) = w3 at *
  obtain ⟨gn, hgn⟩ : ∃ g, g = wr.heap.size := ⟨_, rfl⟩
  rw [← hgn] at HN ⊢
  clear hgn
  obtain ⟨a0, a1, a2, a3, a4, a5, a6, a7, a8, a9, a10, a11, a12⟩ := cells13 HM.out
  obtain ⟨b0, b1, b2, b3⟩ := cells4 HS.out
  obtain ⟨q0, q1, q2, q3⟩ := cells4 HN.out
  go_upto_region 10 with (first
    | (go_at_call 18; (with_reducible refine (KI1.out _).mono ?_); rintro e2 wi ⟨rfl, ho⟩; replace HM := hon HM ho; replace HS := hon HS ho; replace HN := hon HN ho; replace HO := htr HO ho; replace HQ := htr HQ ho; clear ho; clear a0 a1 a2 a3 a4 a5 a6 a7 a8 a9 a10 a11 a12 b0 b1 b2 b3 q0 q1 q2 q3; obtain ⟨a0, a1, a2, a3, a4, a5, a6, a7, a8, a9, a10, a11, a12⟩ := cells13 HM.out; obtain ⟨b0, b1, b2, b3⟩ := cells4 HS.out; obtain ⟨q0, q1, q2, q3⟩ := cells4 HN.out)
    | (go_at_call 18; (with_reducible refine (KI2.out _).mono ?_); rintro e2 wj ⟨rfl, ho⟩; replace HM := hon HM ho; replace HS := hon HS ho; replace HN := hon HN ho; replace HO := htr HO ho; replace HQ := htr HQ ho; clear ho; clear a0 a1 a2 a3 a4 a5 a6 a7 a8 a9 a10 a11 a12 b0 b1 b2 b3 q0 q1 q2 q3; obtain ⟨a0, a1, a2, a3, a4, a5, a6, a7, a8, a9, a10, a11, a12⟩ := cells13 HM.out; obtain ⟨b0, b1, b2, b3⟩ := cells4 HS.out; obtain ⟨q0, q1, q2, q3⟩ := cells4 HN.out)
    | (go_at_call 40; refine (KRB.out _).mono ?_; rintro e2 wc ⟨rfl, ho⟩; replace HM := hon HM ho; replace HS := hon HS ho; replace HN := hon HN ho; replace HO := htr HO ho; replace HQ := htr HQ ho; clear ho KRB; clear a0 a1 a2 a3 a4 a5 a6 a7 a8 a9 a10 a11 a12 b0 b1 b2 b3 q0 q1 q2 q3))
  have HM2 := hide (Blk.new wc 25 #[.int .i64 1, .int .u32 (sd : Nat), .int .u32 0, .int .u64 0, .string ep, .string sA, .string sB, .string ⟨#[]⟩, .string ⟨#[]⟩, .string ⟨#[]⟩, .string ⟨#[]⟩, .string ⟨#[48]⟩, .string ⟨#[48]⟩])
  have HC := hide (Blk.new (wc.alloc (.cells #[.int .i64 1, .int .u32 (sd : Nat), .int .u32 0, .int .u64 0, .string ep, .string sA, .string sB, .string ⟨#[]⟩, .string ⟨#[]⟩, .string ⟨#[]⟩, .string ⟨#[]⟩, .string ⟨#[48]⟩, .string ⟨#[48]⟩] 25)) 80 #[.string cC, .string hC])
  replace HM := hide (HM.out.alloc (.cells #[.int .i64 1, .int .u32 (sd : Nat), .int .u32 0, .int .u64 0, .string ep, .string sA, .string sB, .string ⟨#[]⟩, .string ⟨#[]⟩, .string ⟨#[]⟩, .string ⟨#[]⟩, .string ⟨#[48]⟩, .string ⟨#[48]⟩] 25))
  replace HS := hide (HS.out.alloc (.cells #[.int .i64 1, .int .u32 (sd : Nat), .int .u32 0, .int .u64 0, .string ep, .string sA, .string sB, .string ⟨#[]⟩, .string ⟨#[]⟩, .string ⟨#[]⟩, .string ⟨#[]⟩, .string ⟨#[48]⟩, .string ⟨#[48]⟩] 25))
  replace HN := hide (HN.out.alloc (.cells #[.int .i64 1, .int .u32 (sd : Nat), .int .u32 0, .int .u64 0, .string ep, .string sA, .string sB, .string ⟨#[]⟩, .string ⟨#[]⟩, .string ⟨#[]⟩, .string ⟨#[]⟩, .string ⟨#[48]⟩, .string ⟨#[48]⟩] 25))
  replace HO := hide (HO.out.alloc (.cells #[.int .i64 1, .int .u32 (sd : Nat), .int .u32 0, .int .u64 0, .string ep, .string sA, .string sB, .string ⟨#[]⟩, .string ⟨#[]⟩, .string ⟨#[]⟩, .string ⟨#[]⟩, .string ⟨#[48]⟩, .string ⟨#[48]⟩] 25))
  replace HQ := hide (HQ.out.alloc (.cells #[.int .i64 1, .int .u32 (sd : Nat), .int .u32 0, .int .u64 0, .string ep, .string sA, .string sB, .string ⟨#[]⟩, .string ⟨#[]⟩, .string ⟨#[]⟩, .string ⟨#[]⟩, .string ⟨#[48]⟩, .string ⟨#[48]⟩] 25))
  replace HM2 := hide (HM2.out.alloc (.cells #[.string cC, .string hC] 80))
  replace HM := hide (HM.out.alloc (.cells #[.string cC, .string hC] 80))
  replace HS := hide (HS.out.alloc (.cells #[.string cC, .string hC] 80))
  replace HN := hide (HN.out.alloc (.cells #[.string cC, .string hC] 80))
  replace HO := hide (HO.out.alloc (.cells #[.string cC, .string hC] 80))
  replace HQ := hide (HQ.out.alloc (.cells #[.string cC, .string hC] 80))
  rw [World.size_alloc] at HC
  generalize ((wc.alloc (.cells #[.int .i64 1, .int .u32 (sd : Nat), .int .u32 0, .int .u64 0, .string ep, .string sA, .string sB, .string ⟨#[]⟩, .string ⟨#[]⟩, .string ⟨#[]⟩, .string ⟨#[]⟩, .string ⟨#[48]⟩, .string ⟨#[48]⟩] 25)).alloc (.cells #[.string cC, .string hC] 80)) = w4 at *
  obtain ⟨gc, hgc⟩ : ∃ g, g = wc.heap.size := ⟨_, rfl⟩
  rw [← hgc] at HM2 HC ⊢
  clear hgc
  obtain ⟨a0, a1, a2, a3, a4, a5, a6, a7, a8, a9, a10, a11, a12⟩ := cells13 HM.out
  obtain ⟨b0, b1, b2, b3⟩ := cells4 HS.out
  obtain ⟨p0, p1, p2, p3, p4, p5, p6, p7, p8, p9, p10, p11, p12⟩ := cells13 HM2.out
  obtain ⟨q0, q1⟩ := cells2 HC.out
  go_upto_region 12 with fail
  clear a0 a1 a2 a3 a4 a5 a6 a7 a8 a9 a10 a11 a12 b0 b1 b2 b3 p0 p1 p2 p3 p4 p5 p6 p7 p8 p9 p10 p11 p12 q0 q1 HM2 HS
  go_cut [19, 20] (fun pv cv w' => ∃ g2, pv = .pointer (some ⟨g2, 0, none⟩) ∧ cv = .int .i64 0 ∧ w4.heap.size ≤ g2 ∧ Hid (Blk w' g2 84 #[.int .u32 (sd : Nat), .string ps, .int .u64 (n : Nat), .string ep, .string cC, .string hC]) ∧ Hid (Only [] w4 w'))
  case first =>
    rename_i JJ KK hJJ hKK
    refine wp_region_held_drew (S := fun W => Only [] w4 W) (by kernel_rfl) (by exact (Only.refl [] w4).drew) (fun hHeld => ?_); generalize w4.drew = wd12 at *
    refine tk 0 ?_; refine tk 1 ?_ (hy := by (intro w hSw; (try dsimp only at hSw); have HNw := HN.out.only hSw (by simp); obtain ⟨-, -, -, q3⟩ := cells4 HNw; clear HNw; go_simp; try with_reducible rfl)); refine tk 2 ?_
    refine tk 3 ?_ (hy := by (intro w hSw; (try dsimp only at hSw); have hcell := HP.out _ (HQ.out.trans hSw); go_simp; try with_reducible rfl))
    refine tk 4 ?_ (hy := by (intro w hSw; (try dsimp only at hSw); have HMw := HM.out.only hSw (by simp); obtain ⟨a0, a1, a2, a3, a4, a5, a6, a7, a8, a9, a10, a11, a12⟩ := cells13 HMw; clear HMw; go_simp; try with_reducible rfl))
    refine wpAnyH_ready (rs := [5, 9]) (by kernel_rfl) (by simp) ?_; refine (AllReadyH.cons rfl (fun K hK => ?_) (AllReadyH.cons rfl (fun K hK => ?_) AllReadyH.nil))
    · go_simp; (go_at_call 41; refine (KH.out _ (HT.out.only (HO.out.trans hHeld) (by simp))).mono ?_; rintro e2 w5 ⟨rfl, ho⟩)
      refine hK.out _ _ (by first | exact hHeld.trans ho | exact hHeld.trans (ho.mono (by simp))) (fun hN => ?_); clear hK K ho hHeld; have hHeld := hN; clear hN; (try simp only [zsa, zsb, zsc, Act.put, zsd, zse, zsf])
      refine tk 6 ?_; refine tk 7 ?_; refine tk 8 ?_; refine wpAnyH_ready (rs := [9]) (by kernel_rfl) (by simp) ?_; refine (AllReadyH.cons rfl (fun K hK => ?_) AllReadyH.nil); go_simp; have HNS := hide hHeld.size
      refine hK.out _ _ (by exact hHeld.alloc _) (fun hN => ?_); clear hK K hHeld; have hHeld := hN; clear hN; (try simp only [zsa, zsb, zsc, Act.put, zsd, zse, zsf])
      have HNM := hide (Blk.new w5 84 #[.int .u32 0, .string ⟨#[]⟩, .int .u64 0, .string ⟨#[]⟩, .string ⟨#[]⟩, .string ⟨#[]⟩])
      generalize (w5.alloc (.cells #[.int .u32 0, .string ⟨#[]⟩, .int .u64 0, .string ⟨#[]⟩, .string ⟨#[]⟩, .string ⟨#[]⟩] 84)) = w9 at *
      refine wpAnyH_ready (rs := [10]) (by kernel_rfl) (by simp) ?_; refine (AllReadyH.cons rfl (fun K hK => ?_) AllReadyH.nil); rw [if_pos (by rfl)]
      refine wp_store_mid _ _ _ rfl _ _ #[.int .u32 (sd : Nat), .string ps, .int .u64 (n : Nat), .string ep, .string cC, .string hC] rfl rfl (blk_there HNM.out _ rfl) (by kernel_rfl) (by simp [Value.oneCell']) ?_
      have HST := hide (show Blk (w9.setCells _ 0 [.int .u32 (sd : Nat), .string ps, .int .u64 (n : Nat), .string ep, .string cC, .string hC]) _ 84 #[.int .u32 (sd : Nat), .string ps, .int .u64 (n : Nat), .string ep, .string cC, .string hC] from blk_stored HNM.out [.int .u32 (sd : Nat), .string ps, .int .u64 (n : Nat), .string ep, .string cC, .string hC] rfl)
      refine hK.out _ _ (by exact only_stored hHeld HNS.out [.int .u32 (sd : Nat), .string ps, .int .u64 (n : Nat), .string ep, .string cC, .string hC]) (fun hHeldN => ?_); clear hK K hHeld; have hHeld := hHeldN; clear hHeldN
      (try simp only [zsa, zsb, zsc, Act.put, zsd, zse, zsf]); refine tk 11 ?_; refine wpAnyH_done (by kernel_rfl) ?_ _; dsimp only [Exit.then]; refine hKK _ _ ?_; go_meet; exact ⟨_, rfl, rfl, HNS.out, HST, hide hHeld⟩
    · go_simp; have HNS := hide hHeld.size; refine hK.out _ _ (by exact hHeld.alloc _) (fun hN => ?_); clear hK K hHeld; have hHeld := hN; clear hN; (try simp only [zsa, zsb, zsc, Act.put, zsd, zse, zsf])
      have HNM := hide (Blk.new wd12 84 #[.int .u32 0, .string ⟨#[]⟩, .int .u64 0, .string ⟨#[]⟩, .string ⟨#[]⟩, .string ⟨#[]⟩])
      generalize (wd12.alloc (.cells #[.int .u32 0, .string ⟨#[]⟩, .int .u64 0, .string ⟨#[]⟩, .string ⟨#[]⟩, .string ⟨#[]⟩] 84)) = w9 at *
      refine wpAnyH_ready (rs := [5]) (by kernel_rfl) (by simp) ?_; refine (AllReadyH.cons rfl (fun K hK => ?_) AllReadyH.nil); go_simp
      (go_at_call 41; refine (KH.out _ (HT.out.only (HO.out.trans hHeld) (by simp))).mono ?_; rintro e2 w5 ⟨rfl, ho⟩; replace HNM := hon HNM ho)
      refine hK.out _ _ (by first | exact hHeld.trans ho | exact hHeld.trans (ho.mono (by simp))) (fun hN => ?_); clear hK K ho hHeld; have hHeld := hN; clear hN; (try simp only [zsa, zsb, zsc, Act.put, zsd, zse, zsf])
      refine tk 6 ?_; refine tk 7 ?_; refine tk 8 ?_; refine wpAnyH_ready (rs := [10]) (by kernel_rfl) (by simp) ?_; refine (AllReadyH.cons rfl (fun K hK => ?_) AllReadyH.nil); rw [if_pos (by rfl)]
      refine wp_store_mid _ _ _ rfl _ _ #[.int .u32 (sd : Nat), .string ps, .int .u64 (n : Nat), .string ep, .string cC, .string hC] rfl rfl (blk_there HNM.out _ rfl) (by kernel_rfl) (by simp [Value.oneCell']) ?_
      have HST := hide (show Blk (w5.setCells _ 0 [.int .u32 (sd : Nat), .string ps, .int .u64 (n : Nat), .string ep, .string cC, .string hC]) _ 84 #[.int .u32 (sd : Nat), .string ps, .int .u64 (n : Nat), .string ep, .string cC, .string hC] from blk_stored HNM.out [.int .u32 (sd : Nat), .string ps, .int .u64 (n : Nat), .string ep, .string cC, .string hC] rfl)
      refine hK.out _ _ (by exact only_stored hHeld HNS.out [.int .u32 (sd : Nat), .string ps, .int .u64 (n : Nat), .string ep, .string cC, .string hC]) (fun hHeldN => ?_); clear hK K hHeld; have hHeld := hHeldN; clear hHeldN
      (try simp only [zsa, zsb, zsc, Act.put, zsd, zse, zsf]); refine tk 11 ?_; refine wpAnyH_done (by kernel_rfl) ?_ _; dsimp only [Exit.then]; refine hKK _ _ ?_; go_meet; exact ⟨_, rfl, rfl, HNS.out, HST, hide hHeld⟩
  obtain ⟨gh, rfl, rfl, hg2, HH, HO2⟩ := hcut
  replace HM := hon HM HO2.out
  replace HN := hon HN HO2.out
  replace HC := hon HC HO2.out
  replace HO := htr HO HO2.out
  replace HQ := htr HQ HO2.out
  clear HO2 hg2 KH
  rename World => w5
  go_upto_region 13 with fail
  refine wp_region_held_drew (S := fun W => Only [] w5 W) (by kernel_rfl) (by exact (Only.refl [] w5).drew) (fun hHeld => ?_); generalize w5.drew = wd13 at *
  refine tk 0 ?_; refine tk 1 ?_; refine tk 2 ?_
  refine tk 3 ?_ (hy := by (intro w hSw; (try dsimp only at hSw); have HHw := HH.out.only hSw (by simp); obtain ⟨h0, h1, h2, h3, h4, h5⟩ := cells6 HHw; clear HHw; go_simp; try with_reducible rfl)); refine tk 4 ?_; refine tk 5 ?_
  refine tk 7 ?_; refine tk 8 ?_; refine tk 9 ?_ (hy := by (intro w hSw; (try dsimp only at hSw); have HMw := HM.out.only hSw (by simp); obtain ⟨-, -, -, -, a4, -⟩ := cells13 HMw; clear HMw; go_simp; try with_reducible rfl))
  refine tk 10 ?_; refine tk 11 ?_ (hy := by (intro w hSw; (try dsimp only at hSw); have HCw := HC.out.only hSw (by simp); obtain ⟨q0, -⟩ := cells2 HCw; clear HCw; go_simp; try with_reducible rfl)); refine tk 12 ?_
  refine tk 13 ?_ (hy := by (intro w hSw; (try dsimp only at hSw); have HCw := HC.out.only hSw (by simp); obtain ⟨-, q1⟩ := cells2 HCw; clear HCw; go_simp; try with_reducible rfl))
  refine wpAnyH_ready (rs := [6]) (by kernel_rfl) (by simp) ?_; refine (AllReadyH.cons rfl (fun K hK => ?_) AllReadyH.nil); go_simp; (go_at_call 42; refine (KPU.out _).mono ?_; rintro e2 w6 ⟨rfl, ho⟩)
  refine hK.out _ _ (by first | exact hHeld.trans ho | exact hHeld.trans (ho.mono (by simp))) (fun hN => ?_); clear hK K ho hHeld; have hHeld := hN; clear hN; (try simp only [zsa, zsb, zsc, Act.put, zsd, zse, zsf])
  refine tk 14 ?_; refine tk 15 ?_; refine tk 16 ?_; refine wpAnyH_done (by kernel_rfl) ?_ _
  replace HM := hon HM hHeld
  replace HN := hon HN hHeld
  replace HO := htr HO hHeld
  replace HQ := htr HQ hHeld
  clear hHeld HH HC KPU
  rename World => w6
  obtain ⟨-, -, -, q3⟩ := cells4 HN.out
  have hcell := HP.out _ HQ.out
  go_wp2_with (go_at_call 18; (with_reducible refine (KI3.out _).mono ?_); rintro e2 wk ⟨rfl, ho⟩; replace HM := hon HM ho; replace HN := hon HN ho; replace HO := htr HO ho; replace HQ := htr HQ ho; clear ho q3 hcell; obtain ⟨-, -, -, q3⟩ := cells4 HN.out; have hcell := HP.out _ HQ.out)
  go_ret
  exact ⟨rfl, HO.out⟩
set_option maxRecDepth 100000 in
set_option maxHeartbeats 12800000 in
theorem nb_yes2 (w : World) (s e pb o : ByteArray) (n sd : Nat) (hs : s.size ≤ maxLen) (he : e.size ≤ maxLen) (hpz : pb.size ≤ maxLen) (ho : o.size ≤ maxLen) (hn : n < 18446744073709551616) (hsd : sd < 4294967296) (htab : Tab w) (r : ByteArray) (hb : bigB [s, e, pb, o] = false) (hpb : pb = pubT r) (hpp : parseV pb = some (5, 0, [], [r])) (ts : Tn 200 s) (te : Tn 200 e) (tr : Tn 200 r) (h3 : isV o = true) (h4 : o = r) : Calls Tryz.prog 6 #[.string s, .string e, .string pb, .string o, .int .u64 n, .int .u32 sd] w fun e' w' => e' = .returned (.bool true) ∧ Only [] w w' := by
  obtain ⟨ep, cA, hA, uA, kA, cB, ps, sA, hB, uB, kB, cC, nb, sB, hC, B⟩ := begE s e (pubT r) n
  have KAW := hide (fun W h => awake10 W h)
  have KBG := hide (fun W G hG => big10_new4 W G hG s e pb o hs he hpz ho)
  unfold RetB at KBG
  rw [hb] at KBG
  have KI1 := hide (fun W => isR_all W s hs)
  have KI2 := hide (fun W => isR_all W e he)
  have KI3 := hide (fun W => isR_all W o ho)
  unfold RetB at KI1 KI2 KI3
  rw [show (parseV s).isSome = true from ts.1] at KI1
  rw [show (parseV e).isSome = true from te.1] at KI2
  have KRD := hide (fun W => readR_pub W pb r hpz hpp)
  have KB : Hid (∀ W, Tab W → Calls Tryz.prog 38 #[.string s, .string e, .string pb, .int .u64 n, .int .u32 sd] W (BeginPost 0 #[.int .i64 1, .int .u32 (sd : Nat), .int .u32 0, .int .u64 0, .string ep, .string sA, .string sB, .string ⟨#[]⟩, .string ⟨#[]⟩, .string ⟨#[]⟩, .string ⟨#[]⟩, .string ⟨#[48]⟩, .string ⟨#[48]⟩] #[.int .u32 (sd : Nat), .string e, .string cC, .string hC] W)) := hide (fun W ht => by
    have h := Begin_good (sd := sd) B ts te tr hn W ht
    rw [← hpb] at h
    exact h)
  have KRB : Hid (∀ W, Calls Tryz.prog 40 #[.string s, .string e, .string pb, .int .u64 n, .int .u32 sd] W fun e' w' => e' = .returned (.tuple #[.agg #[.int .i64 1, .int .u32 (sd : Nat), .int .u32 0, .int .u64 0, .string ep, .string sA, .string sB, .string ⟨#[]⟩, .string ⟨#[]⟩, .string ⟨#[]⟩, .string ⟨#[]⟩, .string ⟨#[48]⟩, .string ⟨#[48]⟩], .agg #[.string cC, .string hC]]) ∧ Only [] W w') := hide (fun W => by
    have h := BeginR_any W s e pb n sd hs he hpz hn
    rw [hpb, B.is] at h
    rw [hpb]
    exact h)
  have KH : Hid (∀ W, Tab W → Calls Tryz.prog 41 #[.string r, .agg #[.int .i64 1, .int .u32 (sd : Nat), .int .u32 0, .int .u64 0, .string ep, .string sA, .string sB, .string ⟨#[]⟩, .string ⟨#[]⟩, .string ⟨#[]⟩, .string ⟨#[]⟩, .string ⟨#[48]⟩, .string ⟨#[48]⟩]] W (HeaPost 0 #[.int .u32 (sd : Nat), .string ps, .int .u64 (n : Nat), .string ep, .string cC, .string hC] W)) := hide (fun W ht => Hear_good B ts te tr hn hsd W ht)
  have KPU : Hid (∀ W, Calls Tryz.prog 42 #[.string s] W (MakePost ps W)) := hide (fun W => by
    have h : Calls Tryz.prog 42 #[.string s] W (MakePost (pubT s) W) := PubR_any W s hs
    rw [B.e6] at h
    exact h)
  unfold BeginPost at KB
  unfold HeaPost at KH
  unfold MakePost at KPU
  have hmd : ∀ W, (binOp .neq 25 (.agg #[.int .i64 1, .int .u32 (sd : Nat), .int .u32 0, .int .u64 0, .string ep, .string sA, .string sB, .string ⟨#[]⟩, .string ⟨#[]⟩, .string ⟨#[]⟩, .string ⟨#[]⟩, .string ⟨#[48]⟩, .string ⟨#[48]⟩]) (.agg #[.int .i64 1, .int .u32 (sd : Nat), .int .u32 0, .int .u64 0, .string ep, .string sA, .string sB, .string ⟨#[]⟩, .string ⟨#[]⟩, .string ⟨#[]⟩, .string ⟨#[]⟩, .string ⟨#[48]⟩, .string ⟨#[48]⟩])).run Tryz.prog W = .ok (.bool false) W := fun W => msg_diff (Mg.mk 1 sd 0 0 ep sA sB ⟨#[]⟩ ⟨#[]⟩ ⟨#[]⟩ ⟨#[]⟩ ⟨#[48]⟩ ⟨#[48]⟩) W
  have hsd2 : ∀ W, (binOp .neq 72 (.agg #[.int .u32 (sd : Nat), .string e, .string cC, .string hC]) (.agg #[.int .u32 (sd : Nat), .string e, .string cC, .string hC])).run Tryz.prog W = .ok (.bool false) W := fun W => start_diff sd e cC hC W
  have hhd : ∀ W, (binOp .neq 84 (.agg #[.int .u32 (sd : Nat), .string ps, .int .u64 (n : Nat), .string ep, .string cC, .string hC]) (.agg #[.int .u32 (sd : Nat), .string ps, .int .u64 (n : Nat), .string ep, .string cC, .string hC])).run Tryz.prog W = .ok (.bool false) W := fun W => heard_diff sd ps n ep cC hC W
  have HT := hide htab
  unfold isV at h3
  rw [h3] at KI3
  have hor : (o.toList == r.toList) = true := by rw [h4]; simp
  clear h3 h4
  clear hs he hpz ho hn hsd htab hb hpb hpp ts te tr B
  go_enter Tryz.func6, Tryz.ntmps6
  go_upto_region 6 with (first
    | (go_at_call 36; refine (KAW.out _ HT.out).mono ?_; rintro e2 wa ⟨rfl, ho⟩; have HO := hide ho; clear ho KAW)
    | (go_at_call 37; (with_reducible refine (KBG.out _ _ rfl).mono ?_); rintro e2 wg ⟨rfl, ho⟩; replace HO := htr HO ho; clear ho KBG)
    | (go_at_call 38; refine (KB.out _ (HT.out.only HO.out (by simp))).mono ?_; rintro e2 wb ⟨rfl, ho⟩; replace HO := htr HO ho; clear ho KB))
  have HM := hide (Blk.new wb 25 #[.int .i64 1, .int .u32 (sd : Nat), .int .u32 0, .int .u64 0, .string ep, .string sA, .string sB, .string ⟨#[]⟩, .string ⟨#[]⟩, .string ⟨#[]⟩, .string ⟨#[]⟩, .string ⟨#[48]⟩, .string ⟨#[48]⟩])
  have HS := hide (Blk.new (wb.alloc (.cells #[.int .i64 1, .int .u32 (sd : Nat), .int .u32 0, .int .u64 0, .string ep, .string sA, .string sB, .string ⟨#[]⟩, .string ⟨#[]⟩, .string ⟨#[]⟩, .string ⟨#[]⟩, .string ⟨#[48]⟩, .string ⟨#[48]⟩] 25)) 72 #[.int .u32 (sd : Nat), .string e, .string cC, .string hC])
  replace HO := hide (HO.out.alloc (.cells #[.int .i64 1, .int .u32 (sd : Nat), .int .u32 0, .int .u64 0, .string ep, .string sA, .string sB, .string ⟨#[]⟩, .string ⟨#[]⟩, .string ⟨#[]⟩, .string ⟨#[]⟩, .string ⟨#[48]⟩, .string ⟨#[48]⟩] 25))
  replace HM := hide (HM.out.alloc (.cells #[.int .u32 (sd : Nat), .string e, .string cC, .string hC] 72))
  replace HO := hide (HO.out.alloc (.cells #[.int .u32 (sd : Nat), .string e, .string cC, .string hC] 72))
  rw [World.size_alloc] at HS
  generalize ((wb.alloc (.cells #[.int .i64 1, .int .u32 (sd : Nat), .int .u32 0, .int .u64 0, .string ep, .string sA, .string sB, .string ⟨#[]⟩, .string ⟨#[]⟩, .string ⟨#[]⟩, .string ⟨#[]⟩, .string ⟨#[48]⟩, .string ⟨#[48]⟩] 25)).alloc (.cells #[.int .u32 (sd : Nat), .string e, .string cC, .string hC] 72)) = w2 at *
  obtain ⟨gm, hgm⟩ : ∃ g, g = wb.heap.size := ⟨_, rfl⟩
  rw [← hgm] at HM HS ⊢
  clear hgm
  go_upto_region 7 with (go_at_call 39; refine (KRD.out _).mono ?_; rintro e2 wr ⟨A1, n1, c1, gp, op, c2, rfl, ho, HP⟩; replace HM := hon HM ho; replace HS := hon HS ho; replace HO := htr HO ho; clear ho KRD)
  replace HP := hide HP
  have HQ := hide (Only.refl [] wr)
  have HN := hide (Blk.new wr 77 #[.int .i64 5, .int .u64 0, .slice A1 n1 c1, .slice (some ⟨gp, op, none⟩) 1 c2])
  replace HM := hide (HM.out.alloc (.cells #[.int .i64 5, .int .u64 0, .slice A1 n1 c1, .slice (some ⟨gp, op, none⟩) 1 c2] 77))
  replace HS := hide (HS.out.alloc (.cells #[.int .i64 5, .int .u64 0, .slice A1 n1 c1, .slice (some ⟨gp, op, none⟩) 1 c2] 77))
  replace HO := hide (HO.out.alloc (.cells #[.int .i64 5, .int .u64 0, .slice A1 n1 c1, .slice (some ⟨gp, op, none⟩) 1 c2] 77))
  replace HQ := hide (HQ.out.alloc (.cells #[.int .i64 5, .int .u64 0, .slice A1 n1 c1, .slice (some ⟨gp, op, none⟩) 1 c2] 77))
  generalize (wr.alloc (.cells #[.int .i64 5, .int .u64 0, .slice A1 n1 c1, .slice (some ⟨gp, op, none⟩) 1 c2] 77)) = w3 at *
  obtain ⟨gn, hgn⟩ : ∃ g, g = wr.heap.size := ⟨_, rfl⟩
  rw [← hgn] at HN ⊢
  clear hgn
  obtain ⟨a0, a1, a2, a3, a4, a5, a6, a7, a8, a9, a10, a11, a12⟩ := cells13 HM.out
  obtain ⟨b0, b1, b2, b3⟩ := cells4 HS.out
  obtain ⟨q0, q1, q2, q3⟩ := cells4 HN.out
  go_upto_region 10 with (first
    | (go_at_call 18; (with_reducible refine (KI1.out _).mono ?_); rintro e2 wi ⟨rfl, ho⟩; replace HM := hon HM ho; replace HS := hon HS ho; replace HN := hon HN ho; replace HO := htr HO ho; replace HQ := htr HQ ho; clear ho; clear a0 a1 a2 a3 a4 a5 a6 a7 a8 a9 a10 a11 a12 b0 b1 b2 b3 q0 q1 q2 q3; obtain ⟨a0, a1, a2, a3, a4, a5, a6, a7, a8, a9, a10, a11, a12⟩ := cells13 HM.out; obtain ⟨b0, b1, b2, b3⟩ := cells4 HS.out; obtain ⟨q0, q1, q2, q3⟩ := cells4 HN.out)
    | (go_at_call 18; (with_reducible refine (KI2.out _).mono ?_); rintro e2 wj ⟨rfl, ho⟩; replace HM := hon HM ho; replace HS := hon HS ho; replace HN := hon HN ho; replace HO := htr HO ho; replace HQ := htr HQ ho; clear ho; clear a0 a1 a2 a3 a4 a5 a6 a7 a8 a9 a10 a11 a12 b0 b1 b2 b3 q0 q1 q2 q3; obtain ⟨a0, a1, a2, a3, a4, a5, a6, a7, a8, a9, a10, a11, a12⟩ := cells13 HM.out; obtain ⟨b0, b1, b2, b3⟩ := cells4 HS.out; obtain ⟨q0, q1, q2, q3⟩ := cells4 HN.out)
    | (go_at_call 40; refine (KRB.out _).mono ?_; rintro e2 wc ⟨rfl, ho⟩; replace HM := hon HM ho; replace HS := hon HS ho; replace HN := hon HN ho; replace HO := htr HO ho; replace HQ := htr HQ ho; clear ho KRB; clear a0 a1 a2 a3 a4 a5 a6 a7 a8 a9 a10 a11 a12 b0 b1 b2 b3 q0 q1 q2 q3))
  have HM2 := hide (Blk.new wc 25 #[.int .i64 1, .int .u32 (sd : Nat), .int .u32 0, .int .u64 0, .string ep, .string sA, .string sB, .string ⟨#[]⟩, .string ⟨#[]⟩, .string ⟨#[]⟩, .string ⟨#[]⟩, .string ⟨#[48]⟩, .string ⟨#[48]⟩])
  have HC := hide (Blk.new (wc.alloc (.cells #[.int .i64 1, .int .u32 (sd : Nat), .int .u32 0, .int .u64 0, .string ep, .string sA, .string sB, .string ⟨#[]⟩, .string ⟨#[]⟩, .string ⟨#[]⟩, .string ⟨#[]⟩, .string ⟨#[48]⟩, .string ⟨#[48]⟩] 25)) 80 #[.string cC, .string hC])
  replace HM := hide (HM.out.alloc (.cells #[.int .i64 1, .int .u32 (sd : Nat), .int .u32 0, .int .u64 0, .string ep, .string sA, .string sB, .string ⟨#[]⟩, .string ⟨#[]⟩, .string ⟨#[]⟩, .string ⟨#[]⟩, .string ⟨#[48]⟩, .string ⟨#[48]⟩] 25))
  replace HS := hide (HS.out.alloc (.cells #[.int .i64 1, .int .u32 (sd : Nat), .int .u32 0, .int .u64 0, .string ep, .string sA, .string sB, .string ⟨#[]⟩, .string ⟨#[]⟩, .string ⟨#[]⟩, .string ⟨#[]⟩, .string ⟨#[48]⟩, .string ⟨#[48]⟩] 25))
  replace HN := hide (HN.out.alloc (.cells #[.int .i64 1, .int .u32 (sd : Nat), .int .u32 0, .int .u64 0, .string ep, .string sA, .string sB, .string ⟨#[]⟩, .string ⟨#[]⟩, .string ⟨#[]⟩, .string ⟨#[]⟩, .string ⟨#[48]⟩, .string ⟨#[48]⟩] 25))
  replace HO := hide (HO.out.alloc (.cells #[.int .i64 1, .int .u32 (sd : Nat), .int .u32 0, .int .u64 0, .string ep, .string sA, .string sB, .string ⟨#[]⟩, .string ⟨#[]⟩, .string ⟨#[]⟩, .string ⟨#[]⟩, .string ⟨#[48]⟩, .string ⟨#[48]⟩] 25))
  replace HQ := hide (HQ.out.alloc (.cells #[.int .i64 1, .int .u32 (sd : Nat), .int .u32 0, .int .u64 0, .string ep, .string sA, .string sB, .string ⟨#[]⟩, .string ⟨#[]⟩, .string ⟨#[]⟩, .string ⟨#[]⟩, .string ⟨#[48]⟩, .string ⟨#[48]⟩] 25))
  replace HM2 := hide (HM2.out.alloc (.cells #[.string cC, .string hC] 80))
  replace HM := hide (HM.out.alloc (.cells #[.string cC, .string hC] 80))
  replace HS := hide (HS.out.alloc (.cells #[.string cC, .string hC] 80))
  replace HN := hide (HN.out.alloc (.cells #[.string cC, .string hC] 80))
  replace HO := hide (HO.out.alloc (.cells #[.string cC, .string hC] 80))
  replace HQ := hide (HQ.out.alloc (.cells #[.string cC, .string hC] 80))
  rw [World.size_alloc] at HC
  generalize ((wc.alloc (.cells #[.int .i64 1, .int .u32 (sd : Nat), .int .u32 0, .int .u64 0, .string ep, .string sA, .string sB, .string ⟨#[]⟩, .string ⟨#[]⟩, .string ⟨#[]⟩, .string ⟨#[]⟩, .string ⟨#[48]⟩, .string ⟨#[48]⟩] 25)).alloc (.cells #[.string cC, .string hC] 80)) = w4 at *
  obtain ⟨gc, hgc⟩ : ∃ g, g = wc.heap.size := ⟨_, rfl⟩
  rw [← hgc] at HM2 HC ⊢
  clear hgc
  obtain ⟨a0, a1, a2, a3, a4, a5, a6, a7, a8, a9, a10, a11, a12⟩ := cells13 HM.out
  obtain ⟨b0, b1, b2, b3⟩ := cells4 HS.out
  obtain ⟨p0, p1, p2, p3, p4, p5, p6, p7, p8, p9, p10, p11, p12⟩ := cells13 HM2.out
  obtain ⟨q0, q1⟩ := cells2 HC.out
  go_upto_region 12 with fail
  clear a0 a1 a2 a3 a4 a5 a6 a7 a8 a9 a10 a11 a12 b0 b1 b2 b3 p0 p1 p2 p3 p4 p5 p6 p7 p8 p9 p10 p11 p12 q0 q1 HM2 HS
  go_cut [19, 20] (fun pv cv w' => ∃ g2, pv = .pointer (some ⟨g2, 0, none⟩) ∧ cv = .int .i64 0 ∧ w4.heap.size ≤ g2 ∧ Hid (Blk w' g2 84 #[.int .u32 (sd : Nat), .string ps, .int .u64 (n : Nat), .string ep, .string cC, .string hC]) ∧ Hid (Only [] w4 w'))
  case first =>
    rename_i JJ KK hJJ hKK
    refine wp_region_held_drew (S := fun W => Only [] w4 W) (by kernel_rfl) (by exact (Only.refl [] w4).drew) (fun hHeld => ?_); generalize w4.drew = wd12 at *
    refine tk 0 ?_; refine tk 1 ?_ (hy := by (intro w hSw; (try dsimp only at hSw); have HNw := HN.out.only hSw (by simp); obtain ⟨-, -, -, q3⟩ := cells4 HNw; clear HNw; go_simp; try with_reducible rfl)); refine tk 2 ?_
    refine tk 3 ?_ (hy := by (intro w hSw; (try dsimp only at hSw); have hcell := HP.out _ (HQ.out.trans hSw); go_simp; try with_reducible rfl))
    refine tk 4 ?_ (hy := by (intro w hSw; (try dsimp only at hSw); have HMw := HM.out.only hSw (by simp); obtain ⟨a0, a1, a2, a3, a4, a5, a6, a7, a8, a9, a10, a11, a12⟩ := cells13 HMw; clear HMw; go_simp; try with_reducible rfl))
    refine wpAnyH_ready (rs := [5, 9]) (by kernel_rfl) (by simp) ?_; refine (AllReadyH.cons rfl (fun K hK => ?_) (AllReadyH.cons rfl (fun K hK => ?_) AllReadyH.nil))
    · go_simp; (go_at_call 41; refine (KH.out _ (HT.out.only (HO.out.trans hHeld) (by simp))).mono ?_; rintro e2 w5 ⟨rfl, ho⟩)
      refine hK.out _ _ (by first | exact hHeld.trans ho | exact hHeld.trans (ho.mono (by simp))) (fun hN => ?_); clear hK K ho hHeld; have hHeld := hN; clear hN; (try simp only [zsa, zsb, zsc, Act.put, zsd, zse, zsf])
      refine tk 6 ?_; refine tk 7 ?_; refine tk 8 ?_; refine wpAnyH_ready (rs := [9]) (by kernel_rfl) (by simp) ?_; refine (AllReadyH.cons rfl (fun K hK => ?_) AllReadyH.nil); go_simp; have HNS := hide hHeld.size
      refine hK.out _ _ (by exact hHeld.alloc _) (fun hN => ?_); clear hK K hHeld; have hHeld := hN; clear hN; (try simp only [zsa, zsb, zsc, Act.put, zsd, zse, zsf])
      have HNM := hide (Blk.new w5 84 #[.int .u32 0, .string ⟨#[]⟩, .int .u64 0, .string ⟨#[]⟩, .string ⟨#[]⟩, .string ⟨#[]⟩])
      generalize (w5.alloc (.cells #[.int .u32 0, .string ⟨#[]⟩, .int .u64 0, .string ⟨#[]⟩, .string ⟨#[]⟩, .string ⟨#[]⟩] 84)) = w9 at *
      refine wpAnyH_ready (rs := [10]) (by kernel_rfl) (by simp) ?_; refine (AllReadyH.cons rfl (fun K hK => ?_) AllReadyH.nil); rw [if_pos (by rfl)]
      refine wp_store_mid _ _ _ rfl _ _ #[.int .u32 (sd : Nat), .string ps, .int .u64 (n : Nat), .string ep, .string cC, .string hC] rfl rfl (blk_there HNM.out _ rfl) (by kernel_rfl) (by simp [Value.oneCell']) ?_
      have HST := hide (show Blk (w9.setCells _ 0 [.int .u32 (sd : Nat), .string ps, .int .u64 (n : Nat), .string ep, .string cC, .string hC]) _ 84 #[.int .u32 (sd : Nat), .string ps, .int .u64 (n : Nat), .string ep, .string cC, .string hC] from blk_stored HNM.out [.int .u32 (sd : Nat), .string ps, .int .u64 (n : Nat), .string ep, .string cC, .string hC] rfl)
      refine hK.out _ _ (by exact only_stored hHeld HNS.out [.int .u32 (sd : Nat), .string ps, .int .u64 (n : Nat), .string ep, .string cC, .string hC]) (fun hHeldN => ?_); clear hK K hHeld; have hHeld := hHeldN; clear hHeldN
      (try simp only [zsa, zsb, zsc, Act.put, zsd, zse, zsf]); refine tk 11 ?_; refine wpAnyH_done (by kernel_rfl) ?_ _; dsimp only [Exit.then]; refine hKK _ _ ?_; go_meet; exact ⟨_, rfl, rfl, HNS.out, HST, hide hHeld⟩
    · go_simp; have HNS := hide hHeld.size; refine hK.out _ _ (by exact hHeld.alloc _) (fun hN => ?_); clear hK K hHeld; have hHeld := hN; clear hN; (try simp only [zsa, zsb, zsc, Act.put, zsd, zse, zsf])
      have HNM := hide (Blk.new wd12 84 #[.int .u32 0, .string ⟨#[]⟩, .int .u64 0, .string ⟨#[]⟩, .string ⟨#[]⟩, .string ⟨#[]⟩])
      generalize (wd12.alloc (.cells #[.int .u32 0, .string ⟨#[]⟩, .int .u64 0, .string ⟨#[]⟩, .string ⟨#[]⟩, .string ⟨#[]⟩] 84)) = w9 at *
      refine wpAnyH_ready (rs := [5]) (by kernel_rfl) (by simp) ?_; refine (AllReadyH.cons rfl (fun K hK => ?_) AllReadyH.nil); go_simp
      (go_at_call 41; refine (KH.out _ (HT.out.only (HO.out.trans hHeld) (by simp))).mono ?_; rintro e2 w5 ⟨rfl, ho⟩; replace HNM := hon HNM ho)
      refine hK.out _ _ (by first | exact hHeld.trans ho | exact hHeld.trans (ho.mono (by simp))) (fun hN => ?_); clear hK K ho hHeld; have hHeld := hN; clear hN; (try simp only [zsa, zsb, zsc, Act.put, zsd, zse, zsf])
      refine tk 6 ?_; refine tk 7 ?_; refine tk 8 ?_; refine wpAnyH_ready (rs := [10]) (by kernel_rfl) (by simp) ?_; refine (AllReadyH.cons rfl (fun K hK => ?_) AllReadyH.nil); rw [if_pos (by rfl)]
      refine wp_store_mid _ _ _ rfl _ _ #[.int .u32 (sd : Nat), .string ps, .int .u64 (n : Nat), .string ep, .string cC, .string hC] rfl rfl (blk_there HNM.out _ rfl) (by kernel_rfl) (by simp [Value.oneCell']) ?_
      have HST := hide (show Blk (w5.setCells _ 0 [.int .u32 (sd : Nat), .string ps, .int .u64 (n : Nat), .string ep, .string cC, .string hC]) _ 84 #[.int .u32 (sd : Nat), .string ps, .int .u64 (n : Nat), .string ep, .string cC, .string hC] from blk_stored HNM.out [.int .u32 (sd : Nat), .string ps, .int .u64 (n : Nat), .string ep, .string cC, .string hC] rfl)
      refine hK.out _ _ (by exact only_stored hHeld HNS.out [.int .u32 (sd : Nat), .string ps, .int .u64 (n : Nat), .string ep, .string cC, .string hC]) (fun hHeldN => ?_); clear hK K hHeld; have hHeld := hHeldN; clear hHeldN
      (try simp only [zsa, zsb, zsc, Act.put, zsd, zse, zsf]); refine tk 11 ?_; refine wpAnyH_done (by kernel_rfl) ?_ _; dsimp only [Exit.then]; refine hKK _ _ ?_; go_meet; exact ⟨_, rfl, rfl, HNS.out, HST, hide hHeld⟩
  obtain ⟨gh, rfl, rfl, hg2, HH, HO2⟩ := hcut
  replace HM := hon HM HO2.out
  replace HN := hon HN HO2.out
  replace HC := hon HC HO2.out
  replace HO := htr HO HO2.out
  replace HQ := htr HQ HO2.out
  clear HO2 hg2 KH
  rename World => w5
  go_upto_region 13 with fail
  refine wp_region_held_drew (S := fun W => Only [] w5 W) (by kernel_rfl) (by exact (Only.refl [] w5).drew) (fun hHeld => ?_); generalize w5.drew = wd13 at *
  refine tk 0 ?_; refine tk 1 ?_; refine tk 2 ?_
  refine tk 3 ?_ (hy := by (intro w hSw; (try dsimp only at hSw); have HHw := HH.out.only hSw (by simp); obtain ⟨h0, h1, h2, h3, h4, h5⟩ := cells6 HHw; clear HHw; go_simp; try with_reducible rfl)); refine tk 4 ?_; refine tk 5 ?_
  refine tk 7 ?_; refine tk 8 ?_; refine tk 9 ?_ (hy := by (intro w hSw; (try dsimp only at hSw); have HMw := HM.out.only hSw (by simp); obtain ⟨-, -, -, -, a4, -⟩ := cells13 HMw; clear HMw; go_simp; try with_reducible rfl))
  refine tk 10 ?_; refine tk 11 ?_ (hy := by (intro w hSw; (try dsimp only at hSw); have HCw := HC.out.only hSw (by simp); obtain ⟨q0, -⟩ := cells2 HCw; clear HCw; go_simp; try with_reducible rfl)); refine tk 12 ?_
  refine tk 13 ?_ (hy := by (intro w hSw; (try dsimp only at hSw); have HCw := HC.out.only hSw (by simp); obtain ⟨-, q1⟩ := cells2 HCw; clear HCw; go_simp; try with_reducible rfl))
  refine wpAnyH_ready (rs := [6]) (by kernel_rfl) (by simp) ?_; refine (AllReadyH.cons rfl (fun K hK => ?_) AllReadyH.nil); go_simp; (go_at_call 42; refine (KPU.out _).mono ?_; rintro e2 w6 ⟨rfl, ho⟩)
  refine hK.out _ _ (by first | exact hHeld.trans ho | exact hHeld.trans (ho.mono (by simp))) (fun hN => ?_); clear hK K ho hHeld; have hHeld := hN; clear hN; (try simp only [zsa, zsb, zsc, Act.put, zsd, zse, zsf])
  refine tk 14 ?_; refine tk 15 ?_; refine tk 16 ?_; refine wpAnyH_done (by kernel_rfl) ?_ _
  replace HM := hon HM hHeld
  replace HN := hon HN hHeld
  replace HO := htr HO hHeld
  replace HQ := htr HQ hHeld
  clear hHeld HH HC KPU
  rename World => w6
  obtain ⟨-, -, -, q3⟩ := cells4 HN.out
  have hcell := HP.out _ HQ.out
  go_wp2_with (go_at_call 18; (with_reducible refine (KI3.out _).mono ?_); rintro e2 wk ⟨rfl, ho⟩; replace HM := hon HM ho; replace HN := hon HN ho; replace HO := htr HO ho; replace HQ := htr HQ ho; clear ho q3 hcell; obtain ⟨-, -, -, q3⟩ := cells4 HN.out; have hcell := HP.out _ HQ.out)
  go_ret
  exact ⟨rfl, HO.out⟩
end
end Go.Proofs.YtfipdjlalfpbnaaGreatDoor

/-
  Walks and plain words (texts Ms9). No condition beyond those that each theorem states.
-/
import Derived.Test.YtfipdjlalfpbnaaGreatDoorM38
namespace Go.Proofs.YtfipdjlalfpbnaaGreatDoor
section
open Go.RowKit Go.Deep

set_option maxRecDepth 100000 in
set_option maxHeartbeats 12800000 in
theorem ms_yes (w : World) (m : Mg) (p c2 o : ByteArray) (hF : m.Fine) (hk0 : -9223372036854775808 ≤ m.k) (hp : p.size ≤ maxLen) (hc : c2.size ≤ maxLen) (ho3 : o.size ≤ maxLen) (htab : Tab w) (HB : Hid (∀ (w : World) (G : Nat), G = w.heap.size → Calls Tryz.prog 11 #[.agg m.cells, .slice (some ⟨G, 0, none⟩) 3 3] (w.alloc (.cells #[.string p, .string c2, .string o] 9)) (RetB false w))) (hok : okSign m p c2 = true) (hhv : heavyV m 3000 = false) (hp2 : p.size ≤ 200) (hc2 : c2.size ≤ 200) (hk1 : -9223372036854775808 ≤ (sign2 m p c2).k) : Calls Tryz.prog 3 #[.agg m.cells, .string p, .string c2, .string o] w (RetB true w) := by
  have HAW := hide (fun W ht => awake11 W ht)
  have HSG := hide (fun W ht => Sign_all W m p c2 hF hk0 hp hc ht)
  have HAS := hide (fun W => Asks_any W m hF)
  have HFI := hide (fun W ht => First_any W m p hF hk0 hp ht)
  have HSE := hide (fun W ht => Second_any W m c2 hF hk0 hc ht)
  have HPU := hide (fun W => Pub_any W p hp)
  have HFR := hide (fun W => FirstR_any W m p hF hp)
  have HIS := hide (fun W => isR_kind W c2 hc)
  have HSR := hide (fun W => SecondR_any W m c2 hF hc)
  rw [first_eq] at HFI
  rw [second_eq] at HSE
  unfold RetB at HAW HAS HFI HSE HPU HIS HB
  unfold MakePost at HFR HSR
  unfold SignPost at HSG
  have HCE := hide (c_empty c2)
  obtain ⟨ha, hp5, hcc⟩ := ok_is hok
  have hsz := not_heavy ha hhv
  have HG1 := hide (fun W ht => First_any W (sign2 m p c2) p (sign2_fine hF p c2) hk1 hp ht)
  rw [first_of hok hF hsz hp2 hc2] at HG1
  have HG2 := hide (fun W ht => Second_any W (sign2 m p c2) c2 (sign2_fine hF p c2) hk1 hc ht)
  rw [second_of hok hF hsz hp2 hc2] at HG2
  have HG3 := hide (fun W ht => First_any W (sign2 m p c2) o (sign2_fine hF p c2) hk1 ho3 ht)
  have HG4 := hide (fun W ht => Second_any W (sign2 m p c2) o (sign2_fine hF p c2) hk1 ho3 ht)
  have HO1 := hide (fun (h : firstM (sign2 m p c2) o = true) => first_other hok hF hsz hp2 hc2 h)
  have HO2 := hide (fun (h : secondM (sign2 m p c2) o = true) => second_other hok hF hsz hp2 hc2 h)
  have HSI := hide (fun W => SignR_any W m p c2 hF hp hc)
  rw [signR_is ha p c2] at HSI
  rw [sign_fine hok hF hsz hp2 hc2] at HSG
  generalize firstM (sign2 m p c2) o = fo at *
  generalize secondM (sign2 m p c2) o = so at *
  have HNE := ms_neq (sign2 m p c2)
  unfold RetB at HG1 HG2 HG3 HG4
  clear hsz hok hhv hp2 hc2 hk1
  rw [sign2_macd] at HG1 HG2 HG3 HG4 HSI HSG HNE
  generalize mac1 m p = y1 at *
  generalize mac2 m p c2 = y2 at *
  rw [ha] at HAS HFI HSE
  rw [decide_eq_true hp5] at HFI HPU
  simp only [Bool.true_and] at HFI HSE
  replace hcc : decide (c2 = ByteArray.empty) = true ∨ decide (kindT c2 ≠ 0) = true := hcc.imp (fun h => decide_eq_true h) (fun h => decide_eq_true h)
  have HCC := hide hcc
  clear ha hp5 hcc
  generalize decide (kindT c2 ≠ 0) = bc at *
  generalize decide (c2 = ByteArray.empty) = ce at *
  generalize sumT (doorT p) (bodyM m) = f1 at *
  generalize sec2 m c2 = f2 at *
  have HT := hide htab
  obtain ⟨k, s, r, c, x4, x5, x6, x7, x8, x9, x10, x11, x12⟩ := m
  unfold macd at HG1 HG2 HG3 HG4 HSI HSG HNE
  unfold Mg.cells at HAS HFI HSE HFR HSR HB HSG HG1 HG2 HG3 HG4 HSI HNE ⊢
  simp only at HAS HFI HSE HFR HSR HB HSG HG1 HG2 HG3 HG4 HSI HNE ⊢
  have HMB := hide (Blk.new w 25 #[.int .i64 k, .int .u32 (s : Nat), .int .u32 (r : Nat), .int .u64 (c : Nat), .string x4, .string x5, .string x6, .string x7, .string x8, .string x9, .string x10, .string x11, .string x12])
  have HO := hide ((Only.refl [] w).alloc (.cells #[.int .i64 k, .int .u32 (s : Nat), .int .u32 (r : Nat), .int .u64 (c : Nat), .string x4, .string x5, .string x6, .string x7, .string x8, .string x9, .string x10, .string x11, .string x12] 25))
  replace HT := hide (HT.out.only HO.out (by simp))
  clear htab hF hk0 hp hc ho3
  go_enter Tryz.func3, Tryz.ntmps3
  go_upto_region 1 with fail
  generalize (w.alloc (.cells #[.int .i64 k, .int .u32 (s : Nat), .int .u32 (r : Nat), .int .u64 (c : Nat), .string x4, .string x5, .string x6, .string x7, .string x8, .string x9, .string x10, .string x11, .string x12] 25)) = v0 at *
  obtain ⟨m0, m1, m2, m3, m4, m5, m6, m7, m8, m9, m10, m11, m12⟩ := cells13 HMB.out
  go_upto_region 6 with (first
    | (go_at_call 10; (refine (HAW.out _ HT.out).mono ?_); rintro e2 w1 ⟨rfl, ho⟩; replace HMB := hide (HMB.out.only ho (by simp)); replace HT := hide (HT.out.only ho (by simp)); replace HO := hide (HO.out.trans ho); clear ho; (first | (clear m0 m1 m2 m3 m4 m5 m6 m7 m8 m9 m10 m11 m12) | skip); obtain ⟨m0, m1, m2, m3, m4, m5, m6, m7, m8, m9, m10, m11, m12⟩ := cells13 HMB.out)
    | (go_at_call 11; (refine (HB.out _ _ rfl).mono ?_); rintro e2 w2 ⟨rfl, ho⟩; replace HMB := hide (HMB.out.only ho (by simp)); replace HT := hide (HT.out.only ho (by simp)); replace HO := hide (HO.out.trans ho); clear ho; (first | (clear m0 m1 m2 m3 m4 m5 m6 m7 m8 m9 m10 m11 m12) | skip); obtain ⟨m0, m1, m2, m3, m4, m5, m6, m7, m8, m9, m10, m11, m12⟩ := cells13 HMB.out)
    | (go_at_call 12; refine (HSG.out _ HT.out).mono ?_; rintro e2 w3 ⟨rfl, ho⟩; have HSB := hide (Blk.new w3 25 #[.int .i64 k, .int .u32 (s : Nat), .int .u32 (r : Nat), .int .u64 (c : Nat), .string x4, .string x5, .string x6, .string x7, .string x8, .string x9, .string x10, .string y1, .string y2]); replace ho := ho.alloc (.cells #[.int .i64 k, .int .u32 (s : Nat), .int .u32 (r : Nat), .int .u64 (c : Nat), .string x4, .string x5, .string x6, .string x7, .string x8, .string x9, .string x10, .string y1, .string y2] 25); replace HMB := hide (HMB.out.only ho (by simp)); replace HT := hide (HT.out.only ho (by simp)); replace HO := hide (HO.out.trans ho); clear ho))
  generalize (w3.alloc (.cells #[.int .i64 k, .int .u32 (s : Nat), .int .u32 (r : Nat), .int .u64 (c : Nat), .string x4, .string x5, .string x6, .string x7, .string x8, .string x9, .string x10, .string y1, .string y2] 25)) = v5 at *
  clear m0 m1 m2 m3 m4 m5 m6 m7 m8 m9 m10 m11 m12
  obtain ⟨m0, m1, m2, m3, m4, m5, m6, m7, m8, m9, m10, m11, m12⟩ := cells13 HMB.out
  clear HAW HSG HB
  go_upto_region 7 with (go_at_call 13; (refine (HAS.out _).mono ?_); rintro e2 w6 ⟨rfl, ho⟩; replace HMB := hide (HMB.out.only ho (by simp)); replace HSB := hide (HSB.out.only ho (by simp)); replace HT := hide (HT.out.only ho (by simp)); replace HO := hide (HO.out.trans ho); clear ho; (first | (clear m0 m1 m2 m3 m4 m5 m6 m7 m8 m9 m10 m11 m12) | skip); obtain ⟨m0, m1, m2, m3, m4, m5, m6, m7, m8, m9, m10, m11, m12⟩ := cells13 HMB.out)
  rename World => v6
  clear HAS
  clear m0 m1 m2 m3 m4 m5 m6 m7 m8 m9 m10 m11 m12
  go_cut [64] (fun cv w' => cv = .bool false ∧ Hid (Only [] v6 w'))
  case first =>
    as_aux_lemma =>
      rename_i JJ KK hJJ hKK
      have hne1 : ((x11.toList == f1.toList) != (x11.toList == f1.toList)) = false := bne_self_eq_false _
      have hne2 : ((x12.toList == f2.toList) != (x12.toList == f2.toList)) = false := bne_self_eq_false _
      cases bc
      · (try simp only [Bool.true_and, Bool.false_and, Bool.and_true, Bool.and_false] at HFI); (try simp only [Bool.false_and] at HSE)
        refine wp_region_held_drew (S := fun W => Only [] v6 W) (by kernel_rfl) (by exact (Only.refl [] v6).drew) (fun hHeld => ?_); generalize v6.drew = wd7 at *
        refine tk 0 ?_ (hy := by (intro w hSw; (try dsimp only at hSw); have HMw := HMB.out.only hSw (by simp); obtain ⟨m0, m1, m2, m3, m4, m5, m6, m7, m8, m9, m10, m11, m12⟩ := cells13 HMw; clear HMw; go_simp; try with_reducible rfl))
        refine tk 1 ?_; refine tk 3 ?_; refine wpAnyH_ready (rs := [2]) (by kernel_rfl) (by simp) ?_; refine (AllReadyH.cons rfl (fun K hK => ?_) AllReadyH.nil); go_simp
        (go_at_call 14; (with_reducible refine (HFI.out _ (HT.out.only hHeld (by simp))).mono ?_); rintro e2 w2 ⟨rfl, ho⟩)
        refine hK.out _ _ (by first | exact hHeld.trans ho | exact hHeld.trans (ho.mono (by simp))) (fun hN => ?_); clear hK K ho hHeld; have hHeld := hN; clear hN; (try simp only [zsa, zsb, zsc, Act.put, zsd, zse, zsf])
        refine tk 4 ?_; refine tk 5 ?_; refine wpAnyH_ready (rs := [6]) (by kernel_rfl) (by simp) ?_; refine (AllReadyH.cons rfl (fun K hK => ?_) AllReadyH.nil); go_simp
        (go_at_call 15; (with_reducible refine (HPU.out _).mono ?_); rintro e2 w6 ⟨rfl, ho⟩); refine hK.out _ _ (by first | exact hHeld.trans ho | exact hHeld.trans (ho.mono (by simp))) (fun hN => ?_)
        clear hK K ho hHeld; have hHeld := hN; clear hN; (try simp only [zsa, zsb, zsc, Act.put, zsd, zse, zsf]); refine tk 7 ?_; refine tk 8 ?_; refine tk 9 ?_
        refine tk 10 ?_ (hy := by (intro w hSw; (try dsimp only at hSw); have HMw := HMB.out.only hSw (by simp); obtain ⟨-, -, -, -, -, -, -, -, -, -, -, m11, -⟩ := cells13 HMw; clear HMw; go_simp; try with_reducible rfl))
        refine tk 11 ?_ (hy := by (intro w hSw; (try dsimp only at hSw); have HMw := HMB.out.only hSw (by simp); obtain ⟨m0, m1, m2, m3, m4, m5, m6, m7, m8, m9, m10, m11, m12⟩ := cells13 HMw; clear HMw; go_simp; try with_reducible rfl))
        refine tk 12 ?_; refine wpAnyH_ready (rs := [13]) (by kernel_rfl) (by simp) ?_; refine (AllReadyH.cons rfl (fun K hK => ?_) AllReadyH.nil); go_simp
        (go_at_call 16; (with_reducible refine (HFR.out _).mono ?_); rintro e2 w13 ⟨rfl, ho⟩); refine hK.out _ _ (by first | exact hHeld.trans ho | exact hHeld.trans (ho.mono (by simp))) (fun hN => ?_)
        clear hK K ho hHeld; have hHeld := hN; clear hN; (try simp only [zsa, zsb, zsc, Act.put, zsd, zse, zsf]); refine tk 14 ?_; refine tk 15 ?_; refine tk 16 ?_; refine tk 17 ?_
        refine tk 18 ?_ (hy := by (intro w hSw; (try dsimp only at hSw); have HMw := HMB.out.only hSw (by simp); obtain ⟨m0, m1, m2, m3, m4, m5, m6, m7, m8, m9, m10, m11, m12⟩ := cells13 HMw; clear HMw; go_simp; try with_reducible rfl))
        refine tk 19 ?_; refine tk 21 ?_; refine wpAnyH_ready (rs := [20]) (by kernel_rfl) (by simp) ?_; refine (AllReadyH.cons rfl (fun K hK => ?_) AllReadyH.nil); go_simp
        (go_at_call 17; (with_reducible refine (HSE.out _ (HT.out.only hHeld (by simp))).mono ?_); rintro e2 w20 ⟨rfl, ho⟩)
        refine hK.out _ _ (by first | exact hHeld.trans ho | exact hHeld.trans (ho.mono (by simp))) (fun hN => ?_); clear hK K ho hHeld; have hHeld := hN; clear hN; (try simp only [zsa, zsb, zsc, Act.put, zsd, zse, zsf])
        refine tk 22 ?_; refine tk 23 ?_; refine wpAnyH_ready (rs := [24]) (by kernel_rfl) (by simp) ?_; refine (AllReadyH.cons rfl (fun K hK => ?_) AllReadyH.nil); go_simp
        (go_at_call 18; (with_reducible refine (HIS.out _).mono ?_); rintro e2 w24 ⟨rfl, ho⟩); refine hK.out _ _ (by first | exact hHeld.trans ho | exact hHeld.trans (ho.mono (by simp))) (fun hN => ?_)
        clear hK K ho hHeld; have hHeld := hN; clear hN; (try simp only [zsa, zsb, zsc, Act.put, zsd, zse, zsf])
        refine tk 25 ?_; refine tk 26 ?_; refine tks 27 ?_; refine tks 28 ?_; refine tks 29 ?_; refine tks 30 ?_; refine tks 31 ?_; refine tks 32 ?_; refine tk 33 ?_; refine tk 34 ?_; refine tk 35 ?_
        refine wpAnyH_done (by kernel_rfl) ?_ _; dsimp only [Exit.then]; refine hKK _ _ ?_; go_meet; exact ⟨rfl, hide hHeld⟩
      · (try simp only [Bool.true_and, Bool.false_and, Bool.and_true, Bool.and_false] at HFI); (try simp only [Bool.true_and] at HSE)
        refine wp_region_held_drew (S := fun W => Only [] v6 W) (by kernel_rfl) (by exact (Only.refl [] v6).drew) (fun hHeld => ?_); generalize v6.drew = wd7 at *
        refine tk 0 ?_ (hy := by (intro w hSw; (try dsimp only at hSw); have HMw := HMB.out.only hSw (by simp); obtain ⟨m0, m1, m2, m3, m4, m5, m6, m7, m8, m9, m10, m11, m12⟩ := cells13 HMw; clear HMw; go_simp; try with_reducible rfl))
        refine tk 1 ?_; refine tk 3 ?_; refine wpAnyH_ready (rs := [2]) (by kernel_rfl) (by simp) ?_; refine (AllReadyH.cons rfl (fun K hK => ?_) AllReadyH.nil); go_simp
        (go_at_call 14; (with_reducible refine (HFI.out _ (HT.out.only hHeld (by simp))).mono ?_); rintro e2 w2 ⟨rfl, ho⟩)
        refine hK.out _ _ (by first | exact hHeld.trans ho | exact hHeld.trans (ho.mono (by simp))) (fun hN => ?_); clear hK K ho hHeld; have hHeld := hN; clear hN; (try simp only [zsa, zsb, zsc, Act.put, zsd, zse, zsf])
        refine tk 4 ?_; refine tk 5 ?_; refine wpAnyH_ready (rs := [6]) (by kernel_rfl) (by simp) ?_; refine (AllReadyH.cons rfl (fun K hK => ?_) AllReadyH.nil); go_simp
        (go_at_call 15; (with_reducible refine (HPU.out _).mono ?_); rintro e2 w6 ⟨rfl, ho⟩); refine hK.out _ _ (by first | exact hHeld.trans ho | exact hHeld.trans (ho.mono (by simp))) (fun hN => ?_)
        clear hK K ho hHeld; have hHeld := hN; clear hN; (try simp only [zsa, zsb, zsc, Act.put, zsd, zse, zsf]); refine tk 7 ?_; refine tk 8 ?_; refine tk 9 ?_
        refine tk 10 ?_ (hy := by (intro w hSw; (try dsimp only at hSw); have HMw := HMB.out.only hSw (by simp); obtain ⟨-, -, -, -, -, -, -, -, -, -, -, m11, -⟩ := cells13 HMw; clear HMw; go_simp; try with_reducible rfl))
        refine tk 11 ?_ (hy := by (intro w hSw; (try dsimp only at hSw); have HMw := HMB.out.only hSw (by simp); obtain ⟨m0, m1, m2, m3, m4, m5, m6, m7, m8, m9, m10, m11, m12⟩ := cells13 HMw; clear HMw; go_simp; try with_reducible rfl))
        refine tk 12 ?_; refine wpAnyH_ready (rs := [13]) (by kernel_rfl) (by simp) ?_; refine (AllReadyH.cons rfl (fun K hK => ?_) AllReadyH.nil); go_simp
        (go_at_call 16; (with_reducible refine (HFR.out _).mono ?_); rintro e2 w13 ⟨rfl, ho⟩); refine hK.out _ _ (by first | exact hHeld.trans ho | exact hHeld.trans (ho.mono (by simp))) (fun hN => ?_)
        clear hK K ho hHeld; have hHeld := hN; clear hN; (try simp only [zsa, zsb, zsc, Act.put, zsd, zse, zsf]); refine tk 14 ?_; refine tk 15 ?_; refine tk 16 ?_; refine tk 17 ?_
        refine tk 18 ?_ (hy := by (intro w hSw; (try dsimp only at hSw); have HMw := HMB.out.only hSw (by simp); obtain ⟨m0, m1, m2, m3, m4, m5, m6, m7, m8, m9, m10, m11, m12⟩ := cells13 HMw; clear HMw; go_simp; try with_reducible rfl))
        refine tk 19 ?_; refine tk 21 ?_; refine wpAnyH_ready (rs := [20]) (by kernel_rfl) (by simp) ?_; refine (AllReadyH.cons rfl (fun K hK => ?_) AllReadyH.nil); go_simp
        (go_at_call 17; (with_reducible refine (HSE.out _ (HT.out.only hHeld (by simp))).mono ?_); rintro e2 w20 ⟨rfl, ho⟩)
        refine hK.out _ _ (by first | exact hHeld.trans ho | exact hHeld.trans (ho.mono (by simp))) (fun hN => ?_); clear hK K ho hHeld; have hHeld := hN; clear hN; (try simp only [zsa, zsb, zsc, Act.put, zsd, zse, zsf])
        refine tk 22 ?_; refine tk 23 ?_; refine wpAnyH_ready (rs := [24]) (by kernel_rfl) (by simp) ?_; refine (AllReadyH.cons rfl (fun K hK => ?_) AllReadyH.nil); go_simp
        (go_at_call 18; (with_reducible refine (HIS.out _).mono ?_); rintro e2 w24 ⟨rfl, ho⟩); refine hK.out _ _ (by first | exact hHeld.trans ho | exact hHeld.trans (ho.mono (by simp))) (fun hN => ?_)
        clear hK K ho hHeld; have hHeld := hN; clear hN; (try simp only [zsa, zsb, zsc, Act.put, zsd, zse, zsf]); refine tk 25 ?_; refine tk 26 ?_; refine tk 27 ?_
        refine tk 28 ?_ (hy := by (intro w hSw; (try dsimp only at hSw); have HMw := HMB.out.only hSw (by simp); obtain ⟨-, -, -, -, -, -, -, -, -, -, -, -, m12⟩ := cells13 HMw; clear HMw; go_simp; try with_reducible rfl))
        refine tk 29 ?_ (hy := by (intro w hSw; (try dsimp only at hSw); have HMw := HMB.out.only hSw (by simp); obtain ⟨m0, m1, m2, m3, m4, m5, m6, m7, m8, m9, m10, m11, m12⟩ := cells13 HMw; clear HMw; go_simp; try with_reducible rfl))
        refine tk 30 ?_; refine wpAnyH_ready (rs := [31]) (by kernel_rfl) (by simp) ?_; refine (AllReadyH.cons rfl (fun K hK => ?_) AllReadyH.nil); go_simp
        (go_at_call 19; (with_reducible refine (HSR.out _).mono ?_); rintro e2 w31 ⟨rfl, ho⟩); refine hK.out _ _ (by first | exact hHeld.trans ho | exact hHeld.trans (ho.mono (by simp))) (fun hN => ?_)
        clear hK K ho hHeld; have hHeld := hN; clear hN; (try simp only [zsa, zsb, zsc, Act.put, zsd, zse, zsf])
        refine tk 32 ?_; refine tk 33 ?_; refine tk 34 ?_; refine tk 35 ?_; refine wpAnyH_done (by kernel_rfl) ?_ _; dsimp only [Exit.then]; refine hKK _ _ ?_; go_meet; exact ⟨rfl, hide hHeld⟩
  obtain ⟨rfl, HQ⟩ := hcut
  replace HMB := hide (HMB.out.only HQ.out (by simp)); replace HSB := hide (HSB.out.only HQ.out (by simp)); replace HT := hide (HT.out.only HQ.out (by simp)); replace HO := hide (HO.out.trans HQ.out)
  clear HQ
  rename World => wc
  clear HFI HSE HFR HSR
  go_upto_region 9 with fail
  go_cut [80] (fun cv w' => cv = .bool false ∧ Hid (Only [] wc w'))
  case first =>
    as_aux_lemma =>
      have HP := hide (Only.refl [] wc)
      cases ce
      · have hbc : bc = true := HCC.out.resolve_left (by decide)
        subst hbc
        have e3 := HCE.out
        go_wp2_with (first
          | (go_at_call 15; (with_reducible refine (HPU.out _).mono ?_); rintro e2 x2 ⟨rfl, ho⟩; replace HMB := hide (HMB.out.only ho (by simp)); replace HSB := hide (HSB.out.only ho (by simp)); replace HT := hide (HT.out.only ho (by simp)); replace HP := hide (HP.out.trans ho); clear ho)
          | (go_at_call 18; (with_reducible refine (HIS.out _).mono ?_); rintro e2 x5 ⟨rfl, ho⟩; replace HMB := hide (HMB.out.only ho (by simp)); replace HSB := hide (HSB.out.only ho (by simp)); replace HT := hide (HT.out.only ho (by simp)); replace HP := hide (HP.out.trans ho); clear ho))
        go_meet
        exact ⟨rfl, HP⟩
      · have e3 := HCE.out
        go_wp2_with (first
          | (go_at_call 15; (with_reducible refine (HPU.out _).mono ?_); rintro e2 x2 ⟨rfl, ho⟩; replace HMB := hide (HMB.out.only ho (by simp)); replace HSB := hide (HSB.out.only ho (by simp)); replace HT := hide (HT.out.only ho (by simp)); replace HP := hide (HP.out.trans ho); clear ho)
          | (go_at_call 18; (with_reducible refine (HIS.out _).mono ?_); rintro e2 x5 ⟨rfl, ho⟩; replace HMB := hide (HMB.out.only ho (by simp)); replace HSB := hide (HSB.out.only ho (by simp)); replace HT := hide (HT.out.only ho (by simp)); replace HP := hide (HP.out.trans ho); clear ho))
        go_meet
        exact ⟨rfl, HP⟩
  obtain ⟨rfl, HQ⟩ := hcut
  replace HMB := hide (HMB.out.only HQ.out (by simp)); replace HSB := hide (HSB.out.only HQ.out (by simp)); replace HT := hide (HT.out.only HQ.out (by simp)); replace HO := hide (HO.out.trans HQ.out)
  clear HQ
  rename World => wc
  clear HPU HIS
  go_upto_region 11 with fail
  go_cut [111] (fun cv w' => cv = .bool false ∧ Hid (Only [] wc w'))
  case first =>
    as_aux_lemma =>
      rename_i JJ KK hJJ hKK
      cases ce
      · have e3 := HCE.out
        (try simp only [Bool.not_false] at HG2)
        refine wp_region_held_drew (S := fun W => Only [] wc W) (by kernel_rfl) (by exact (Only.refl [] wc).drew) (fun hHeld => ?_); generalize wc.drew = wd11 at *
        refine tk 0 ?_; refine tk 1 ?_; refine tk 2 ?_
        refine tk 3 ?_ (hy := by (intro w hSw; (try dsimp only at hSw); have HSw := HSB.out.only hSw (by simp); obtain ⟨b0, b1, b2, b3, b4, b5, b6, b7, b8, b9, b10, b11, b12⟩ := cells13 HSw; clear HSw; go_simp; try with_reducible rfl))
        refine tk 4 ?_ (hy := by (intro w hSw; (try dsimp only at hSw); have HMw := HMB.out.only hSw (by simp); obtain ⟨m0, m1, m2, m3, m4, m5, m6, m7, m8, m9, m10, m11, m12⟩ := cells13 HMw; clear HMw; go_simp; try with_reducible rfl))
        refine tk 5 ?_; refine tk 6 ?_; refine wpAnyH_ready (rs := [7]) (by kernel_rfl) (by simp) ?_; refine (AllReadyH.cons rfl (fun K hK => ?_) AllReadyH.nil); go_simp
        (go_at_call 20; (with_reducible refine (HSI.out _).mono ?_); rintro e2 w7 ⟨rfl, ho⟩); refine hK.out _ _ (by first | exact hHeld.trans ho | exact hHeld.trans (ho.mono (by simp))) (fun hN => ?_)
        clear hK K ho hHeld; have hHeld := hN; clear hN; (try simp only [zsa, zsb, zsc, Act.put, zsd, zse, zsf]); refine tk 8 ?_; refine tk 9 ?_; refine tk 10 ?_
        refine tk 11 ?_ (hy := by (intro w hSw; (try dsimp only at hSw); have HSw := HSB.out.only hSw (by simp); obtain ⟨b0, b1, b2, b3, b4, b5, b6, b7, b8, b9, b10, b11, b12⟩ := cells13 HSw; clear HSw; go_simp; try with_reducible rfl))
        refine tk 12 ?_; refine wpAnyH_ready (rs := [13]) (by kernel_rfl) (by simp) ?_; refine (AllReadyH.cons rfl (fun K hK => ?_) AllReadyH.nil); go_simp
        (go_at_call 14; (with_reducible refine (HG1.out _ (HT.out.only hHeld (by simp))).mono ?_); rintro e2 w13 ⟨rfl, ho⟩)
        refine hK.out _ _ (by first | exact hHeld.trans ho | exact hHeld.trans (ho.mono (by simp))) (fun hN => ?_); clear hK K ho hHeld; have hHeld := hN; clear hN; (try simp only [zsa, zsb, zsc, Act.put, zsd, zse, zsf])
        refine tk 14 ?_; refine tk 15 ?_; refine tk 16 ?_
        refine tk 17 ?_ (hy := by (intro w hSw; (try dsimp only at hSw); have HSw := HSB.out.only hSw (by simp); obtain ⟨b0, b1, b2, b3, b4, b5, b6, b7, b8, b9, b10, b11, b12⟩ := cells13 HSw; clear HSw; go_simp; try with_reducible rfl))
        refine tk 18 ?_; refine tk 20 ?_; refine tk 21 ?_; refine wpAnyH_ready (rs := [19]) (by kernel_rfl) (by simp) ?_; refine (AllReadyH.cons rfl (fun K hK => ?_) AllReadyH.nil); go_simp
        (go_at_call 17; (with_reducible refine (HG2.out _ (HT.out.only hHeld (by simp))).mono ?_); rintro e2 w19 ⟨rfl, ho⟩)
        refine hK.out _ _ (by first | exact hHeld.trans ho | exact hHeld.trans (ho.mono (by simp))) (fun hN => ?_); clear hK K ho hHeld; have hHeld := hN; clear hN; (try simp only [zsa, zsb, zsc, Act.put, zsd, zse, zsf])
        refine tk 22 ?_; refine tk 23 ?_; refine wpAnyH_done (by kernel_rfl) ?_ _; dsimp only [Exit.then]; refine hKK _ _ ?_; go_meet; exact ⟨rfl, hide hHeld⟩
      · have e3 := HCE.out
        (try simp only [Bool.not_true] at HG2)
        refine wp_region_held_drew (S := fun W => Only [] wc W) (by kernel_rfl) (by exact (Only.refl [] wc).drew) (fun hHeld => ?_); generalize wc.drew = wd11 at *
        refine tk 0 ?_; refine tk 1 ?_; refine tk 2 ?_
        refine tk 3 ?_ (hy := by (intro w hSw; (try dsimp only at hSw); have HSw := HSB.out.only hSw (by simp); obtain ⟨b0, b1, b2, b3, b4, b5, b6, b7, b8, b9, b10, b11, b12⟩ := cells13 HSw; clear HSw; go_simp; try with_reducible rfl))
        refine tk 4 ?_ (hy := by (intro w hSw; (try dsimp only at hSw); have HMw := HMB.out.only hSw (by simp); obtain ⟨m0, m1, m2, m3, m4, m5, m6, m7, m8, m9, m10, m11, m12⟩ := cells13 HMw; clear HMw; go_simp; try with_reducible rfl))
        refine tk 5 ?_; refine tk 6 ?_; refine wpAnyH_ready (rs := [7]) (by kernel_rfl) (by simp) ?_; refine (AllReadyH.cons rfl (fun K hK => ?_) AllReadyH.nil); go_simp
        (go_at_call 20; (with_reducible refine (HSI.out _).mono ?_); rintro e2 w7 ⟨rfl, ho⟩); refine hK.out _ _ (by first | exact hHeld.trans ho | exact hHeld.trans (ho.mono (by simp))) (fun hN => ?_)
        clear hK K ho hHeld; have hHeld := hN; clear hN; (try simp only [zsa, zsb, zsc, Act.put, zsd, zse, zsf]); refine tk 8 ?_; refine tk 9 ?_; refine tk 10 ?_
        refine tk 11 ?_ (hy := by (intro w hSw; (try dsimp only at hSw); have HSw := HSB.out.only hSw (by simp); obtain ⟨b0, b1, b2, b3, b4, b5, b6, b7, b8, b9, b10, b11, b12⟩ := cells13 HSw; clear HSw; go_simp; try with_reducible rfl))
        refine tk 12 ?_; refine wpAnyH_ready (rs := [13]) (by kernel_rfl) (by simp) ?_; refine (AllReadyH.cons rfl (fun K hK => ?_) AllReadyH.nil); go_simp
        (go_at_call 14; (with_reducible refine (HG1.out _ (HT.out.only hHeld (by simp))).mono ?_); rintro e2 w13 ⟨rfl, ho⟩)
        refine hK.out _ _ (by first | exact hHeld.trans ho | exact hHeld.trans (ho.mono (by simp))) (fun hN => ?_); clear hK K ho hHeld; have hHeld := hN; clear hN; (try simp only [zsa, zsb, zsc, Act.put, zsd, zse, zsf])
        refine tk 14 ?_; refine tk 15 ?_; refine tk 16 ?_
        refine tk 17 ?_ (hy := by (intro w hSw; (try dsimp only at hSw); have HSw := HSB.out.only hSw (by simp); obtain ⟨b0, b1, b2, b3, b4, b5, b6, b7, b8, b9, b10, b11, b12⟩ := cells13 HSw; clear HSw; go_simp; try with_reducible rfl))
        refine tk 18 ?_; refine tk 20 ?_; refine tk 21 ?_; refine wpAnyH_ready (rs := [19]) (by kernel_rfl) (by simp) ?_; refine (AllReadyH.cons rfl (fun K hK => ?_) AllReadyH.nil); go_simp
        (go_at_call 17; (with_reducible refine (HG2.out _ (HT.out.only hHeld (by simp))).mono ?_); rintro e2 w19 ⟨rfl, ho⟩)
        refine hK.out _ _ (by first | exact hHeld.trans ho | exact hHeld.trans (ho.mono (by simp))) (fun hN => ?_); clear hK K ho hHeld; have hHeld := hN; clear hN; (try simp only [zsa, zsb, zsc, Act.put, zsd, zse, zsf])
        refine tk 22 ?_; refine tk 23 ?_; refine wpAnyH_done (by kernel_rfl) ?_ _; dsimp only [Exit.then]; refine hKK _ _ ?_; go_meet; exact ⟨rfl, hide hHeld⟩
  obtain ⟨rfl, HQ⟩ := hcut
  replace HMB := hide (HMB.out.only HQ.out (by simp)); replace HSB := hide (HSB.out.only HQ.out (by simp)); replace HT := hide (HT.out.only HQ.out (by simp)); replace HO := hide (HO.out.trans HQ.out)
  clear HQ
  rename World => wc
  clear HG1 HG2 HSI HMB HNE
  go_upto_region 13 with fail
  obtain ⟨b0, b1, b2, b3, b4, b5, b6, b7, b8, b9, b10, b11, b12⟩ := cells13 HSB.out
  cases fo
  · cases so
    · go_wp2_with (first
      | (go_at_call 14; (with_reducible refine (HG3.out _ HT.out).mono ?_); rintro e2 x2 ⟨rfl, ho⟩; replace HSB := hide (HSB.out.only ho (by simp)); replace HT := hide (HT.out.only ho (by simp)); replace HO := hide (HO.out.trans ho); clear ho; (first | (clear b0 b1 b2 b3 b4 b5 b6 b7 b8 b9 b10 b11 b12) | skip); obtain ⟨b0, b1, b2, b3, b4, b5, b6, b7, b8, b9, b10, b11, b12⟩ := cells13 HSB.out)
      | (go_at_call 17; (with_reducible refine (HG4.out _ HT.out).mono ?_); rintro e2 x4 ⟨rfl, ho⟩; replace HSB := hide (HSB.out.only ho (by simp)); replace HT := hide (HT.out.only ho (by simp)); replace HO := hide (HO.out.trans ho); clear ho; (first | (clear b0 b1 b2 b3 b4 b5 b6 b7 b8 b9 b10 b11 b12) | skip); obtain ⟨b0, b1, b2, b3, b4, b5, b6, b7, b8, b9, b10, b11, b12⟩ := cells13 HSB.out))
      go_ret
      exact retb rfl HO.out
    · have e2 := HO2.out rfl
      have hc2 : (o.toList == c2.toList) = true := by rw [e2]; exact beq_self_eq_true _
      clear e2
      go_wp2_with (first
        | (go_at_call 14; (with_reducible refine (HG3.out _ HT.out).mono ?_); rintro e2 x2 ⟨rfl, ho⟩; replace HSB := hide (HSB.out.only ho (by simp)); replace HT := hide (HT.out.only ho (by simp)); replace HO := hide (HO.out.trans ho); clear ho; (first | (clear b0 b1 b2 b3 b4 b5 b6 b7 b8 b9 b10 b11 b12) | skip); obtain ⟨b0, b1, b2, b3, b4, b5, b6, b7, b8, b9, b10, b11, b12⟩ := cells13 HSB.out)
        | (go_at_call 17; (with_reducible refine (HG4.out _ HT.out).mono ?_); rintro e2 x4 ⟨rfl, ho⟩; replace HSB := hide (HSB.out.only ho (by simp)); replace HT := hide (HT.out.only ho (by simp)); replace HO := hide (HO.out.trans ho); clear ho; (first | (clear b0 b1 b2 b3 b4 b5 b6 b7 b8 b9 b10 b11 b12) | skip); obtain ⟨b0, b1, b2, b3, b4, b5, b6, b7, b8, b9, b10, b11, b12⟩ := cells13 HSB.out))
      go_ret
      exact retb rfl HO.out
  · have e1 := HO1.out rfl
    have hp2 : (o.toList == p.toList) = true := by rw [e1]; exact beq_self_eq_true _
    clear e1
    cases so
    · go_wp2_with (first
      | (go_at_call 14; (with_reducible refine (HG3.out _ HT.out).mono ?_); rintro e2 x2 ⟨rfl, ho⟩; replace HSB := hide (HSB.out.only ho (by simp)); replace HT := hide (HT.out.only ho (by simp)); replace HO := hide (HO.out.trans ho); clear ho; (first | (clear b0 b1 b2 b3 b4 b5 b6 b7 b8 b9 b10 b11 b12) | skip); obtain ⟨b0, b1, b2, b3, b4, b5, b6, b7, b8, b9, b10, b11, b12⟩ := cells13 HSB.out)
      | (go_at_call 17; (with_reducible refine (HG4.out _ HT.out).mono ?_); rintro e2 x4 ⟨rfl, ho⟩; replace HSB := hide (HSB.out.only ho (by simp)); replace HT := hide (HT.out.only ho (by simp)); replace HO := hide (HO.out.trans ho); clear ho; (first | (clear b0 b1 b2 b3 b4 b5 b6 b7 b8 b9 b10 b11 b12) | skip); obtain ⟨b0, b1, b2, b3, b4, b5, b6, b7, b8, b9, b10, b11, b12⟩ := cells13 HSB.out))
      go_ret
      exact retb rfl HO.out
    · have e2 := HO2.out rfl
      have hc2 : (o.toList == c2.toList) = true := by rw [e2]; exact beq_self_eq_true _
      clear e2
      go_wp2_with (first
        | (go_at_call 14; (with_reducible refine (HG3.out _ HT.out).mono ?_); rintro e2 x2 ⟨rfl, ho⟩; replace HSB := hide (HSB.out.only ho (by simp)); replace HT := hide (HT.out.only ho (by simp)); replace HO := hide (HO.out.trans ho); clear ho; (first | (clear b0 b1 b2 b3 b4 b5 b6 b7 b8 b9 b10 b11 b12) | skip); obtain ⟨b0, b1, b2, b3, b4, b5, b6, b7, b8, b9, b10, b11, b12⟩ := cells13 HSB.out)
        | (go_at_call 17; (with_reducible refine (HG4.out _ HT.out).mono ?_); rintro e2 x4 ⟨rfl, ho⟩; replace HSB := hide (HSB.out.only ho (by simp)); replace HT := hide (HT.out.only ho (by simp)); replace HO := hide (HO.out.trans ho); clear ho; (first | (clear b0 b1 b2 b3 b4 b5 b6 b7 b8 b9 b10 b11 b12) | skip); obtain ⟨b0, b1, b2, b3, b4, b5, b6, b7, b8, b9, b10, b11, b12⟩ := cells13 HSB.out))
      go_ret
      exact retb rfl HO.out
end
end Go.Proofs.YtfipdjlalfpbnaaGreatDoor

/-
  Walks and plain words (texts Nq1). No condition beyond those that each theorem states.
-/
import Derived.Test.YtfipdjlalfpbnaaGreatDoorH01
namespace Go.Proofs.YtfipdjlalfpbnaaGreatDoor
section
open Go.RowKit Go.Deep

set_option maxRecDepth 100000 in
set_option maxHeartbeats 12800000 in
theorem HearR_walk (w : World) (sc : ByteArray) (k : Int) (sn r cc : Nat) (x4 x5 x6 x7 x8 x9 x10 x11 x12 : ByteArray) (hsc : sc.size ≤ maxLen) (hF : (Mg.mk k sn r cc x4 x5 x6 x7 x8 x9 x10 x11 x12).Fine) (hb : (parseV sc).isSome = true) (hr : rightM (Mg.mk k sn r cc x4 x5 x6 x7 x8 x9 x10 x11 x12) = true) (hk : k = 1) (hp4 : (whatV x4).1 = 5) (hm5 : x5.size ≤ 1000000) (hm6 : x6.size ≤ 1000000) (p : ByteArray) (pc : Int) (q : ByteArray) (qc : Int) (pr cA hA uA kA cB hB uB kB cC hC : ByteArray) (e_pr : pubT sc = pr) (e_cA : begC x4 = cA) (e_hA : begH pr x4 = hA) (e_uA : agreeT sc x4 = uA) (e_kA : kdfT 2 cA uA = kA) (e_cB : kdfT 1 cA uA = cB) (e_hB : hashT hA x5 = hB) (e_uB : agreeT sc p = uB) (e_kB : kdfT 2 cB uB = kB) (e_cC : kdfT 1 cB uB = cC) (e_hC : hashT hB x6 = hC) (hp : openT x5 kA 0 hA = (p, pc)) (hq : openT x6 kB 0 hB = (q, qc)) (kp : Int) (hkp : (whatV p).1 = kp) (kq : Int) (nq : Nat) (hkq : (whatV q).1 = kq) (hnq2 : (whatV q).2.1 = nq) (Q : Ending → World → Prop) (q2 : ¬ pc = 0 → ∀ e w', HeaPost 8 #[.string ⟨#[]⟩, .int .u64 0, .string ⟨#[]⟩, .string ⟨#[]⟩] w e w' → Q e w') (q3 : pc = 0 → ¬ kp = 5 → ∀ e w', HeaPost 3 #[.string ⟨#[]⟩, .int .u64 0, .string ⟨#[]⟩, .string ⟨#[]⟩] w e w' → Q e w') (q4 : pc = 0 → kp = 5 → ¬ qc = 0 → ∀ e w', HeaPost 8 #[.string ⟨#[]⟩, .int .u64 0, .string ⟨#[]⟩, .string ⟨#[]⟩] w e w' → Q e w') (q5 : pc = 0 → kp = 5 → qc = 0 → ¬ kq = 3 → ∀ e w', HeaPost 3 #[.string ⟨#[]⟩, .int .u64 0, .string ⟨#[]⟩, .string ⟨#[]⟩] w e w' → Q e w') (q6 : pc = 0 → kp = 5 → qc = 0 → kq = 3 → ∀ e w', HeaPost 0 #[.string p, .int .u64 (nq : Nat), .string cC, .string hC] w e w' → Q e w') : Calls Tryz.prog 43 #[.string sc, .agg #[.int .i64 k, .int .u32 (sn : Nat), .int .u32 (r : Nat), .int .u64 (cc : Nat), .string x4, .string x5, .string x6, .string x7, .string x8, .string x9, .string x10, .string x11, .string x12]] w Q := by
  have z_pr : pr.size ≤ maxLen := e_pr ▸ pubT_size _
  have z_cA : cA.size ≤ maxLen := e_cA ▸ kdfT_size 1 (by omega) _ _
  have z_hA : hA.size ≤ maxLen := e_hA ▸ hashT_size _ _
  have z_uA : uA.size ≤ maxLen := e_uA ▸ agreeT_size _ _
  have z_kA : kA.size ≤ maxLen := e_kA ▸ kdfT_size 2 (by omega) _ _
  have z_cB : cB.size ≤ maxLen := e_cB ▸ kdfT_size 1 (by omega) _ _
  have z_hB : hB.size ≤ maxLen := e_hB ▸ hashT_size _ _
  have z_uB : uB.size ≤ maxLen := e_uB ▸ agreeT_size _ _
  have z_kB : kB.size ≤ maxLen := e_kB ▸ kdfT_size 2 (by omega) _ _
  have z_cC : cC.size ≤ maxLen := e_cC ▸ kdfT_size 1 (by omega) _ _
  have z_hC : hC.size ≤ maxLen := e_hC ▸ hashT_size _ _
  have z_p : p.size ≤ maxLen := by have := open_max x5 kA 0 hA; rw [hp] at this; exact this
  have z_q : q.size ≤ maxLen := by have := open_max x6 kB 0 hB; rw [hq] at this; exact this
  have hx4 : x4.size ≤ maxLen := hF.x4
  have hx5 : x5.size ≤ maxLen := hF.x5
  have hx6 : x6.size ≤ maxLen := hF.x6
  have KE := hide (show ∀ W, Calls Tryz.prog 42 #[.string sc] W (MakePost (pubT sc) W) from fun W => PubR_any W sc hsc)
  rw [e_pr] at KE
  unfold MakePost at KE
  have KB := hide (fun W => FirstR_any W pr x4 z_pr hx4)
  rw [e_cA] at KB
  rw [e_hA] at KB
  unfold StatePost at KB
  have KA1 := hide (fun W => AgreeR_any W sc x4 hsc hx4)
  rw [e_uA] at KA1
  unfold MakePost at KA1
  have KK1 := hide (fun W => KdfR2_any W cA uA z_cA z_uA)
  rw [e_kA] at KK1
  unfold MakePost at KK1
  have KO1 := hide (show ∀ W, Calls Tryz.prog 65 #[.string x5, .string kA, .int .u64 0, .string hA] W (OpenPost (openT x5 kA 0 hA) W) from fun W => OpenR_any W x5 kA hA 0 hm5)
  unfold OpenPost at KO1
  have KR1 := hide (fun W => readR_cells W p z_p)
  have KK2 := hide (fun W => KdfR1_any W cA uA z_cA z_uA)
  rw [e_cB] at KK2
  unfold MakePost at KK2
  have KH1 := hide (fun W => hashR_any W hA x5 z_hA hx5)
  rw [e_hB] at KH1
  unfold MakePost at KH1
  have KA2 := hide (fun W => AgreeR_any W sc p hsc z_p)
  rw [e_uB] at KA2
  unfold MakePost at KA2
  have KK3 := hide (fun W => KdfR2_any W cB uB z_cB z_uB)
  rw [e_kB] at KK3
  unfold MakePost at KK3
  have KO2 := hide (show ∀ W, Calls Tryz.prog 65 #[.string x6, .string kB, .int .u64 0, .string hB] W (OpenPost (openT x6 kB 0 hB) W) from fun W => OpenR_any W x6 kB hB 0 hm6)
  unfold OpenPost at KO2
  have KR2 := hide (fun W => readR_cells W q z_q)
  have KK4 := hide (fun W => KdfR1_any W cB uB z_cB z_uB)
  rw [e_cC] at KK4
  unfold MakePost at KK4
  have KH2 := hide (fun W => hashR_any W hB x6 z_hB hx6)
  rw [e_hC] at KH2
  unfold MakePost at KH2
  rw [hp] at KO1
  rw [hq] at KO2
  simp only at KO1 KO2
  rw [hkp] at KR1
  rw [hkq, hnq2] at KR2
  have hfd1 := node_field kp
  have Q2 := hide q2
  have Q3 := hide q3
  have Q4 := hide q4
  have Q5 := hide q5
  have Q6 := hide q6
  have KI := hide (fun W => isR_all W sc hsc)
  have KRT := hide (show ∀ W, Calls Tryz.prog 49 #[.agg #[.int .i64 k, .int .u32 (sn : Nat), .int .u32 (r : Nat), .int .u64 (cc : Nat), .string x4, .string x5, .string x6, .string x7, .string x8, .string x9, .string x10, .string x11, .string x12]] W (RetB (rightM (Mg.mk k sn r cc x4 x5 x6 x7 x8 x9 x10 x11 x12)) W) from fun W => RightR_any W (Mg.mk k sn r cc x4 x5 x6 x7 x8 x9 x10 x11 x12) hF)
  have KRD := hide (fun W => readR_cells W x4 hF.x4)
  unfold RetB at KI KRT
  have hfd := node_field (whatV x4).1
  have HMB := hide ((Blk.new w 25 #[.int .i64 k, .int .u32 (sn : Nat), .int .u32 (r : Nat), .int .u64 (cc : Nat), .string x4, .string x5, .string x6, .string x7, .string x8, .string x9, .string x10, .string x11, .string x12]).alloc (.cells #[.string ⟨#[]⟩, .int .u64 0, .string ⟨#[]⟩, .string ⟨#[]⟩] 90))
  have HR := hide (Blk.new (w.alloc (.cells #[.int .i64 k, .int .u32 (sn : Nat), .int .u32 (r : Nat), .int .u64 (cc : Nat), .string x4, .string x5, .string x6, .string x7, .string x8, .string x9, .string x10, .string x11, .string x12] 25)) 90 #[.string ⟨#[]⟩, .int .u64 0, .string ⟨#[]⟩, .string ⟨#[]⟩])
  rw [World.size_alloc] at HR
  have HO := hide (((Only.refl [] w).alloc (.cells #[.int .i64 k, .int .u32 (sn : Nat), .int .u32 (r : Nat), .int .u64 (cc : Nat), .string x4, .string x5, .string x6, .string x7, .string x8, .string x9, .string x10, .string x11, .string x12] 25)).alloc (.cells #[.string ⟨#[]⟩, .int .u64 0, .string ⟨#[]⟩, .string ⟨#[]⟩] 90))
  rw [hb] at KI
  rw [hr] at KRT
  have hkb : (k != 1) = false := by rw [bne_eq_false_iff_eq]; exact hk
  rw [hp4] at KRD hfd
  clear hb hr hk hp4 hp hq
  clear hsc hF hx4 hx5 hx6 z_p z_q hm5 hm6 hkp hkq hnq2 q2 q3 q4 q5 q6 z_pr e_pr z_cA e_cA z_hA e_hA z_uA e_uA z_kA e_kA z_cB e_cB z_hB e_hB z_uB e_uB z_kB e_kB z_cC e_cC z_hC e_hC
  go_enter Tryz.func43, Tryz.ntmps43
  go_upto_region 1 with fail
  generalize ((w.alloc (.cells #[.int .i64 k, .int .u32 (sn : Nat), .int .u32 (r : Nat), .int .u64 (cc : Nat), .string x4, .string x5, .string x6, .string x7, .string x8, .string x9, .string x10, .string x11, .string x12] 25)).alloc (.cells #[.string ⟨#[]⟩, .int .u64 0, .string ⟨#[]⟩, .string ⟨#[]⟩] 90)) = v0 at *
  obtain ⟨m0, m1, m2, m3, m4, m5, m6, m7, m8, m9, m10, m11, m12⟩ := cells13 HMB.out; obtain ⟨y0, y1, y2, y3⟩ := cells4 HR.out; have yf := HR.out.frozen
  go_upto_region 3 with (first
    | (go_at_call 18; (with_reducible refine (KI.out _).mono ?_); rintro e2 wi ⟨rfl, ho⟩; replace HMB := hon HMB ho; replace HR := hon HR ho; replace HO := htr HO ho; clear ho; (first | (clear m0 m1 m2 m3 m4 m5 m6 m7 m8 m9 m10 m11 m12; clear y0 y1 y2 y3 yf) | skip); obtain ⟨m0, m1, m2, m3, m4, m5, m6, m7, m8, m9, m10, m11, m12⟩ := cells13 HMB.out; obtain ⟨y0, y1, y2, y3⟩ := cells4 HR.out; have yf := HR.out.frozen)
    | (go_at_call 49; (with_reducible refine (KRT.out _).mono ?_); rintro e2 wr ⟨rfl, ho⟩; replace HMB := hon HMB ho; replace HR := hon HR ho; replace HO := htr HO ho; clear ho; (first | (clear m0 m1 m2 m3 m4 m5 m6 m7 m8 m9 m10 m11 m12; clear y0 y1 y2 y3 yf) | skip); obtain ⟨m0, m1, m2, m3, m4, m5, m6, m7, m8, m9, m10, m11, m12⟩ := cells13 HMB.out; obtain ⟨y0, y1, y2, y3⟩ := cells4 HR.out; have yf := HR.out.frozen)
    | (go_at_call 39; (with_reducible refine (KRD.out _).mono ?_); rintro e2 wp ⟨A1, n1, c1, A2, n2, c2, rfl, ho⟩; replace HMB := hon HMB ho; replace HR := hon HR ho; replace HO := htr HO ho; clear ho; (first | (clear m0 m1 m2 m3 m4 m5 m6 m7 m8 m9 m10 m11 m12; clear y0 y1 y2 y3 yf) | skip); obtain ⟨m0, m1, m2, m3, m4, m5, m6, m7, m8, m9, m10, m11, m12⟩ := cells13 HMB.out; obtain ⟨y0, y1, y2, y3⟩ := cells4 HR.out; have yf := HR.out.frozen))
  clear m0 m1 m2 m3 m4 m5 m6 m7 m8 m9 m10 m11 m12
  clear y0 y1 y2 y3 yf
  go_cut [6] (fun pv w' => ∃ g2, pv = .pointer (some ⟨g2, 0, none⟩) ∧ wp.heap.size ≤ g2 ∧ Hid (Blk w' g2 80 #[.string cA, .string hA]) ∧ Hid (Only [] wp w'))
  case first =>
    rename_i JJ KK hJJ hKK
    refine wp_region_held_drew (S := fun W => Only [] wp W) (by kernel_rfl) (by exact (Only.refl [] wp).drew) (fun hHeld => ?_); generalize wp.drew = wd3 at *
    refine tk 0 ?_; refine tk 2 ?_; refine tk 3 ?_ (hy := by (intro w hSw; (try dsimp only at hSw); have HMw := HMB.out.only hSw (by simp); obtain ⟨-, -, -, -, m4, -⟩ := cells13 HMw; clear HMw; go_simp; try with_reducible rfl))
    refine wpAnyH_ready (rs := [1, 5]) (by kernel_rfl) (by simp) ?_; refine (AllReadyH.cons rfl (fun K hK => ?_) (AllReadyH.cons rfl (fun K hK => ?_) AllReadyH.nil))
    · go_simp; (go_at_call 42; refine (KE.out _).mono ?_; rintro e2 w1 ⟨rfl, ho⟩); refine hK.out _ _ (by first | exact hHeld.trans ho | exact hHeld.trans (ho.mono (by simp))) (fun hN => ?_); clear hK K ho hHeld
      have hHeld := hN; clear hN; (try simp only [zsa, zsb, zsc, Act.put, zsd, zse, zsf])
      refine wpAnyH_ready (rs := [4, 5]) (by kernel_rfl) (by simp) ?_; refine (AllReadyH.cons rfl (fun K hK => ?_) (AllReadyH.cons rfl (fun K hK => ?_) AllReadyH.nil))
      · go_simp; (go_at_call 98; refine (KB.out _).mono ?_; rintro e2 w4 ⟨rfl, ho⟩); refine hK.out _ _ (by first | exact hHeld.trans ho | exact hHeld.trans (ho.mono (by simp))) (fun hN => ?_)
        clear hK K ho hHeld; have hHeld := hN; clear hN; (try simp only [zsa, zsb, zsc, Act.put, zsd, zse, zsf])
        refine wpAnyH_ready (rs := [5]) (by kernel_rfl) (by simp) ?_; refine (AllReadyH.cons rfl (fun K hK => ?_) AllReadyH.nil); go_simp; have HNS := hide hHeld.size; refine hK.out _ _ (by exact hHeld.alloc _) (fun hN => ?_)
        clear hK K hHeld; have hHeld := hN; clear hN; (try simp only [zsa, zsb, zsc, Act.put, zsd, zse, zsf]); have HNM := hide (Blk.new w4 80 #[.string ⟨#[]⟩, .string ⟨#[]⟩])
        generalize (w4.alloc (.cells #[.string ⟨#[]⟩, .string ⟨#[]⟩] 80)) = w5 at *
        refine wpAnyH_ready (rs := [6]) (by kernel_rfl) (by simp) ?_; refine (AllReadyH.cons rfl (fun K hK => ?_) AllReadyH.nil); rw [if_pos (by rfl)]
        refine wp_store_mid _ _ _ rfl _ _ #[.string cA, .string hA] rfl rfl (blk_there HNM.out _ rfl) (by kernel_rfl) (by simp [Value.oneCell']) ?_
        have HST := hide (show Blk (w5.setCells _ 0 [.string cA, .string hA]) _ 80 #[.string cA, .string hA] from blk_stored HNM.out [.string cA, .string hA] rfl)
        refine hK.out _ _ (by exact only_stored hHeld HNS.out [.string cA, .string hA]) (fun hHeldN => ?_); clear hK K hHeld; have hHeld := hHeldN; clear hHeldN; (try simp only [zsa, zsb, zsc, Act.put, zsd, zse, zsf])
        refine wpAnyH_done (by kernel_rfl) ?_ _; dsimp only [Exit.then]; refine hKK _ _ ?_; go_meet; exact ⟨_, rfl, HNS.out, HST, hide hHeld⟩
      · go_simp; have HNS := hide hHeld.size; refine hK.out _ _ (by exact hHeld.alloc _) (fun hN => ?_); clear hK K hHeld; have hHeld := hN; clear hN; (try simp only [zsa, zsb, zsc, Act.put, zsd, zse, zsf])
        have HNM := hide (Blk.new w1 80 #[.string ⟨#[]⟩, .string ⟨#[]⟩]); generalize (w1.alloc (.cells #[.string ⟨#[]⟩, .string ⟨#[]⟩] 80)) = w5 at *
        refine wpAnyH_ready (rs := [4]) (by kernel_rfl) (by simp) ?_; refine (AllReadyH.cons rfl (fun K hK => ?_) AllReadyH.nil); go_simp
        (go_at_call 98; refine (KB.out _).mono ?_; rintro e2 w4 ⟨rfl, ho⟩; replace HNM := hon HNM ho)
        refine hK.out _ _ (by first | exact hHeld.trans ho | exact hHeld.trans (ho.mono (by simp))) (fun hN => ?_); clear hK K ho hHeld; have hHeld := hN; clear hN; (try simp only [zsa, zsb, zsc, Act.put, zsd, zse, zsf])
        refine wpAnyH_ready (rs := [6]) (by kernel_rfl) (by simp) ?_; refine (AllReadyH.cons rfl (fun K hK => ?_) AllReadyH.nil); rw [if_pos (by rfl)]
        refine wp_store_mid _ _ _ rfl _ _ #[.string cA, .string hA] rfl rfl (blk_there HNM.out _ rfl) (by kernel_rfl) (by simp [Value.oneCell']) ?_
        have HST := hide (show Blk (w4.setCells _ 0 [.string cA, .string hA]) _ 80 #[.string cA, .string hA] from blk_stored HNM.out [.string cA, .string hA] rfl)
        refine hK.out _ _ (by exact only_stored hHeld HNS.out [.string cA, .string hA]) (fun hHeldN => ?_); clear hK K hHeld; have hHeld := hHeldN; clear hHeldN; (try simp only [zsa, zsb, zsc, Act.put, zsd, zse, zsf])
        refine wpAnyH_done (by kernel_rfl) ?_ _; dsimp only [Exit.then]; refine hKK _ _ ?_; go_meet; exact ⟨_, rfl, HNS.out, HST, hide hHeld⟩
    · go_simp; have HNS := hide hHeld.size; refine hK.out _ _ (by exact hHeld.alloc _) (fun hN => ?_); clear hK K hHeld; have hHeld := hN; clear hN; (try simp only [zsa, zsb, zsc, Act.put, zsd, zse, zsf])
      have HNM := hide (Blk.new wd3 80 #[.string ⟨#[]⟩, .string ⟨#[]⟩]); generalize (wd3.alloc (.cells #[.string ⟨#[]⟩, .string ⟨#[]⟩] 80)) = w5 at *
      refine wpAnyH_ready (rs := [1]) (by kernel_rfl) (by simp) ?_; refine (AllReadyH.cons rfl (fun K hK => ?_) AllReadyH.nil); go_simp
      (go_at_call 42; refine (KE.out _).mono ?_; rintro e2 w1 ⟨rfl, ho⟩; replace HNM := hon HNM ho)
      refine hK.out _ _ (by first | exact hHeld.trans ho | exact hHeld.trans (ho.mono (by simp))) (fun hN => ?_); clear hK K ho hHeld; have hHeld := hN; clear hN; (try simp only [zsa, zsb, zsc, Act.put, zsd, zse, zsf])
      refine wpAnyH_ready (rs := [4]) (by kernel_rfl) (by simp) ?_; refine (AllReadyH.cons rfl (fun K hK => ?_) AllReadyH.nil); go_simp
      (go_at_call 98; refine (KB.out _).mono ?_; rintro e2 w4 ⟨rfl, ho⟩; replace HNM := hon HNM ho)
      refine hK.out _ _ (by first | exact hHeld.trans ho | exact hHeld.trans (ho.mono (by simp))) (fun hN => ?_); clear hK K ho hHeld; have hHeld := hN; clear hN; (try simp only [zsa, zsb, zsc, Act.put, zsd, zse, zsf])
      refine wpAnyH_ready (rs := [6]) (by kernel_rfl) (by simp) ?_; refine (AllReadyH.cons rfl (fun K hK => ?_) AllReadyH.nil); rw [if_pos (by rfl)]
      refine wp_store_mid _ _ _ rfl _ _ #[.string cA, .string hA] rfl rfl (blk_there HNM.out _ rfl) (by kernel_rfl) (by simp [Value.oneCell']) ?_
      have HST := hide (show Blk (w4.setCells _ 0 [.string cA, .string hA]) _ 80 #[.string cA, .string hA] from blk_stored HNM.out [.string cA, .string hA] rfl)
      refine hK.out _ _ (by exact only_stored hHeld HNS.out [.string cA, .string hA]) (fun hHeldN => ?_); clear hK K hHeld; have hHeld := hHeldN; clear hHeldN; (try simp only [zsa, zsb, zsc, Act.put, zsd, zse, zsf])
      refine wpAnyH_done (by kernel_rfl) ?_ _; dsimp only [Exit.then]; refine hKK _ _ ?_; go_meet; exact ⟨_, rfl, HNS.out, HST, hide hHeld⟩
  obtain ⟨g, rfl, hg2, HX, HO2⟩ := hcut
  replace HMB := hon HMB HO2.out; replace HR := hon HR HO2.out; replace HO := htr HO HO2.out
  clear HO2 hg2 KE KB KI KRT KRD hfd
  rename World => w3
  obtain ⟨-, -, -, -, m4, -⟩ := cells13 HMB.out
  go_upto_region 5 with (first
    | (go_at_call 46; (with_reducible refine (KA1.out _).mono ?_); rintro e2 w4 ⟨rfl, ho⟩; replace HMB := hon HMB ho; replace HR := hon HR ho; replace HX := hon HX ho; replace HO := htr HO ho; clear ho m4))
  rename World => w4
  refine wp_region_held_drew (S := fun W => Only [] w4 W) (by kernel_rfl) (by exact (Only.refl [] w4).drew) (fun hHeld => ?_); generalize w4.drew = wd5 at *
  refine tk 0 ?_; refine tk 1 ?_ (hy := by (intro w hSw; (try dsimp only at hSw); have HMw := HMB.out.only hSw (by simp); obtain ⟨-, -, -, -, -, m5, -⟩ := cells13 HMw; clear HMw; go_simp; try with_reducible rfl)); refine tk 2 ?_
  refine tk 3 ?_ (hy := by (intro w hSw; (try dsimp only at hSw); have HXw := HX.out.only hSw (by simp); obtain ⟨x0, -⟩ := cells2 HXw; clear HXw; go_simp; try with_reducible rfl)); refine tk 4 ?_; refine tk 6 ?_
  refine tk 7 ?_ (hy := by (intro w hSw; (try dsimp only at hSw); have HXw := HX.out.only hSw (by simp); obtain ⟨-, x1⟩ := cells2 HXw; clear HXw; go_simp; try with_reducible rfl))
  refine wpAnyH_ready (rs := [5]) (by kernel_rfl) (by simp) ?_; refine (AllReadyH.cons rfl (fun K hK => ?_) AllReadyH.nil); go_simp; (go_at_call 102; refine (KK1.out _).mono ?_; rintro e2 w5 ⟨rfl, ho⟩)
  refine hK.out _ _ (by first | exact hHeld.trans ho | exact hHeld.trans (ho.mono (by simp))) (fun hN => ?_); clear hK K ho hHeld; have hHeld := hN; clear hN; (try simp only [zsa, zsb, zsc, Act.put, zsd, zse, zsf])
  refine wpAnyH_ready (rs := [8]) (by kernel_rfl) (by simp) ?_; refine (AllReadyH.cons rfl (fun K hK => ?_) AllReadyH.nil); go_simp; (go_at_call 65; refine (KO1.out _).mono ?_; rintro e2 w8 ⟨rfl, ho⟩)
  refine hK.out _ _ (by first | exact hHeld.trans ho | exact hHeld.trans (ho.mono (by simp))) (fun hN => ?_); clear hK K ho hHeld; have hHeld := hN; clear hN; (try simp only [zsa, zsb, zsc, Act.put, zsd, zse, zsf])
  refine tk 9 ?_; refine tk 10 ?_; refine tk 11 ?_; refine tk 12 ?_; refine tk 13 ?_; refine wpAnyH_done (by kernel_rfl) ?_ _
  replace HMB := hon HMB hHeld; replace HR := hon HR hHeld; replace HX := hon HX hHeld; replace HO := htr HO hHeld
  clear hHeld KA1 KK1 KO1
  rcases Decidable.em (pc = 0) with hm | hm
  · have hob : (pc != 0) = false := by rw [bne_eq_false_iff_eq]; exact hm
    have H1 := hide hm
    clear hm
    rcases Decidable.em (kp = 5) with hm | hm
    · have H2 := hide hm
      rw [hm] at KR1 hfd1
      clear hm
      go_upto_region 10 with (first
        | (go_at_call 39; (with_reducible refine (KR1.out _).mono ?_); rintro e2 w8 ⟨A1, n1, c1, A2, n2, c2, rfl, ho⟩; replace HMB := hon HMB ho; replace HR := hon HR ho; replace HX := hon HX ho; replace HO := htr HO ho; clear ho))
      rename World => w8
      go_cut [10] (fun pv w' => ∃ g2, pv = .pointer (some ⟨g2, 0, none⟩) ∧ w8.heap.size ≤ g2 ∧ Hid (Blk w' g2 80 #[.string cB, .string hB]) ∧ Hid (Only [] w8 w'))
      case first =>
        rename_i JJ KK hJJ hKK
        refine wp_region_held_drew (S := fun W => Only [] w8 W) (by kernel_rfl) (by exact (Only.refl [] w8).drew) (fun hHeld => ?_); generalize w8.drew = wd10 at *
        refine tk 0 ?_; refine tk 1 ?_ (hy := by (intro w hSw; (try dsimp only at hSw); have HXw := HX.out.only hSw (by simp); obtain ⟨x0, -⟩ := cells2 HXw; clear HXw; go_simp; try with_reducible rfl)); refine tk 2 ?_; refine tk 4 ?_
        refine tk 5 ?_ (hy := by (intro w hSw; (try dsimp only at hSw); have HXw := HX.out.only hSw (by simp); obtain ⟨-, x1⟩ := cells2 HXw; clear HXw; go_simp; try with_reducible rfl)); refine tk 6 ?_
        refine tk 7 ?_ (hy := by (intro w hSw; (try dsimp only at hSw); have HMw := HMB.out.only hSw (by simp); obtain ⟨-, -, -, -, -, m5, -⟩ := cells13 HMw; clear HMw; go_simp; try with_reducible rfl))
        refine wpAnyH_ready (rs := [3, 10]) (by kernel_rfl) (by simp) ?_; refine (AllReadyH.cons rfl (fun K hK => ?_) (AllReadyH.cons rfl (fun K hK => ?_) AllReadyH.nil))
        · go_simp; (go_at_call 102; refine (KK2.out _).mono ?_; rintro e2 w3 ⟨rfl, ho⟩); refine hK.out _ _ (by first | exact hHeld.trans ho | exact hHeld.trans (ho.mono (by simp))) (fun hN => ?_)
          clear hK K ho hHeld; have hHeld := hN; clear hN; (try simp only [zsa, zsb, zsc, Act.put, zsd, zse, zsf])
          refine wpAnyH_ready (rs := [8, 10]) (by kernel_rfl) (by simp) ?_; refine (AllReadyH.cons rfl (fun K hK => ?_) (AllReadyH.cons rfl (fun K hK => ?_) AllReadyH.nil))
          · go_simp; (go_at_call 103; refine (KH1.out _).mono ?_; rintro e2 w8 ⟨rfl, ho⟩); refine hK.out _ _ (by first | exact hHeld.trans ho | exact hHeld.trans (ho.mono (by simp))) (fun hN => ?_)
            clear hK K ho hHeld; have hHeld := hN; clear hN; (try simp only [zsa, zsb, zsc, Act.put, zsd, zse, zsf])
            refine tk 9 ?_; refine wpAnyH_ready (rs := [10]) (by kernel_rfl) (by simp) ?_; refine (AllReadyH.cons rfl (fun K hK => ?_) AllReadyH.nil); go_simp; have HNS := hide hHeld.size
            refine hK.out _ _ (by exact hHeld.alloc _) (fun hN => ?_); clear hK K hHeld; have hHeld := hN; clear hN; (try simp only [zsa, zsb, zsc, Act.put, zsd, zse, zsf])
            have HNM := hide (Blk.new w8 80 #[.string ⟨#[]⟩, .string ⟨#[]⟩]); generalize (w8.alloc (.cells #[.string ⟨#[]⟩, .string ⟨#[]⟩] 80)) = w10 at *
            refine wpAnyH_ready (rs := [11]) (by kernel_rfl) (by simp) ?_; refine (AllReadyH.cons rfl (fun K hK => ?_) AllReadyH.nil); rw [if_pos (by rfl)]
            refine wp_store_mid _ _ _ rfl _ _ #[.string cB, .string hB] rfl rfl (blk_there HNM.out _ rfl) (by kernel_rfl) (by simp [Value.oneCell']) ?_
            have HST := hide (show Blk (w10.setCells _ 0 [.string cB, .string hB]) _ 80 #[.string cB, .string hB] from blk_stored HNM.out [.string cB, .string hB] rfl)
            refine hK.out _ _ (by exact only_stored hHeld HNS.out [.string cB, .string hB]) (fun hHeldN => ?_); clear hK K hHeld; have hHeld := hHeldN; clear hHeldN; (try simp only [zsa, zsb, zsc, Act.put, zsd, zse, zsf])
            refine wpAnyH_done (by kernel_rfl) ?_ _; dsimp only [Exit.then]; refine hKK _ _ ?_; go_meet; exact ⟨_, rfl, HNS.out, HST, hide hHeld⟩
          · go_simp; have HNS := hide hHeld.size; refine hK.out _ _ (by exact hHeld.alloc _) (fun hN => ?_); clear hK K hHeld; have hHeld := hN; clear hN; (try simp only [zsa, zsb, zsc, Act.put, zsd, zse, zsf])
            have HNM := hide (Blk.new w3 80 #[.string ⟨#[]⟩, .string ⟨#[]⟩]); generalize (w3.alloc (.cells #[.string ⟨#[]⟩, .string ⟨#[]⟩] 80)) = w10 at *
            refine wpAnyH_ready (rs := [8]) (by kernel_rfl) (by simp) ?_; refine (AllReadyH.cons rfl (fun K hK => ?_) AllReadyH.nil); go_simp
            (go_at_call 103; refine (KH1.out _).mono ?_; rintro e2 w8 ⟨rfl, ho⟩; replace HNM := hon HNM ho)
            refine hK.out _ _ (by first | exact hHeld.trans ho | exact hHeld.trans (ho.mono (by simp))) (fun hN => ?_); clear hK K ho hHeld; have hHeld := hN; clear hN; (try simp only [zsa, zsb, zsc, Act.put, zsd, zse, zsf])
            refine tk 9 ?_; refine wpAnyH_ready (rs := [11]) (by kernel_rfl) (by simp) ?_; refine (AllReadyH.cons rfl (fun K hK => ?_) AllReadyH.nil); rw [if_pos (by rfl)]
            refine wp_store_mid _ _ _ rfl _ _ #[.string cB, .string hB] rfl rfl (blk_there HNM.out _ rfl) (by kernel_rfl) (by simp [Value.oneCell']) ?_
            have HST := hide (show Blk (w8.setCells _ 0 [.string cB, .string hB]) _ 80 #[.string cB, .string hB] from blk_stored HNM.out [.string cB, .string hB] rfl)
            refine hK.out _ _ (by exact only_stored hHeld HNS.out [.string cB, .string hB]) (fun hHeldN => ?_); clear hK K hHeld; have hHeld := hHeldN; clear hHeldN; (try simp only [zsa, zsb, zsc, Act.put, zsd, zse, zsf])
            refine wpAnyH_done (by kernel_rfl) ?_ _; dsimp only [Exit.then]; refine hKK _ _ ?_; go_meet; exact ⟨_, rfl, HNS.out, HST, hide hHeld⟩
        · go_simp; have HNS := hide hHeld.size; refine hK.out _ _ (by exact hHeld.alloc _) (fun hN => ?_); clear hK K hHeld; have hHeld := hN; clear hN; (try simp only [zsa, zsb, zsc, Act.put, zsd, zse, zsf])
          have HNM := hide (Blk.new wd10 80 #[.string ⟨#[]⟩, .string ⟨#[]⟩]); generalize (wd10.alloc (.cells #[.string ⟨#[]⟩, .string ⟨#[]⟩] 80)) = w10 at *
          refine wpAnyH_ready (rs := [3]) (by kernel_rfl) (by simp) ?_; refine (AllReadyH.cons rfl (fun K hK => ?_) AllReadyH.nil); go_simp
          (go_at_call 102; refine (KK2.out _).mono ?_; rintro e2 w3 ⟨rfl, ho⟩; replace HNM := hon HNM ho)
          refine hK.out _ _ (by first | exact hHeld.trans ho | exact hHeld.trans (ho.mono (by simp))) (fun hN => ?_); clear hK K ho hHeld; have hHeld := hN; clear hN; (try simp only [zsa, zsb, zsc, Act.put, zsd, zse, zsf])
          refine wpAnyH_ready (rs := [8]) (by kernel_rfl) (by simp) ?_; refine (AllReadyH.cons rfl (fun K hK => ?_) AllReadyH.nil); go_simp
          (go_at_call 103; refine (KH1.out _).mono ?_; rintro e2 w8 ⟨rfl, ho⟩; replace HNM := hon HNM ho)
          refine hK.out _ _ (by first | exact hHeld.trans ho | exact hHeld.trans (ho.mono (by simp))) (fun hN => ?_); clear hK K ho hHeld; have hHeld := hN; clear hN; (try simp only [zsa, zsb, zsc, Act.put, zsd, zse, zsf])
          refine tk 9 ?_; refine wpAnyH_ready (rs := [11]) (by kernel_rfl) (by simp) ?_; refine (AllReadyH.cons rfl (fun K hK => ?_) AllReadyH.nil); rw [if_pos (by rfl)]
          refine wp_store_mid _ _ _ rfl _ _ #[.string cB, .string hB] rfl rfl (blk_there HNM.out _ rfl) (by kernel_rfl) (by simp [Value.oneCell']) ?_
          have HST := hide (show Blk (w8.setCells _ 0 [.string cB, .string hB]) _ 80 #[.string cB, .string hB] from blk_stored HNM.out [.string cB, .string hB] rfl)
          refine hK.out _ _ (by exact only_stored hHeld HNS.out [.string cB, .string hB]) (fun hHeldN => ?_); clear hK K hHeld; have hHeld := hHeldN; clear hHeldN; (try simp only [zsa, zsb, zsc, Act.put, zsd, zse, zsf])
          refine wpAnyH_done (by kernel_rfl) ?_ _; dsimp only [Exit.then]; refine hKK _ _ ?_; go_meet; exact ⟨_, rfl, HNS.out, HST, hide hHeld⟩
      obtain ⟨g3, rfl, hg2, HY, HO2⟩ := hcut
      have HGY := hide (show w.heap.size + 1 < g3 from Nat.lt_of_lt_of_le HR.out.lt hg2)
      replace HMB := hon HMB HO2.out; replace HR := hon HR HO2.out; replace HO := htr HO HO2.out
      clear HO2 hg2 KR1 KK2 KH1 HX hfd1
      rename World => w10
      go_upto_region 12 with (first
        | (go_at_call 46; (with_reducible refine (KA2.out _).mono ?_); rintro e2 w11 ⟨rfl, ho⟩; replace HMB := hon HMB ho; replace HR := hon HR ho; replace HY := hon HY ho; replace HO := htr HO ho; clear ho))
      rename World => w11
      refine wp_region_held_drew (S := fun W => Only [] w11 W) (by kernel_rfl) (by exact (Only.refl [] w11).drew) (fun hHeld => ?_); generalize w11.drew = wd12 at *
      refine tk 0 ?_; refine tk 1 ?_ (hy := by (intro w hSw; (try dsimp only at hSw); have HMw := HMB.out.only hSw (by simp); obtain ⟨-, -, -, -, -, -, m6, -⟩ := cells13 HMw; clear HMw; go_simp; try with_reducible rfl)); refine tk 2 ?_
      refine tk 3 ?_ (hy := by (intro w hSw; (try dsimp only at hSw); have HYw := HY.out.only hSw (by simp); obtain ⟨z0, -⟩ := cells2 HYw; clear HYw; go_simp; try with_reducible rfl)); refine tk 4 ?_; refine tk 6 ?_
      refine tk 7 ?_ (hy := by (intro w hSw; (try dsimp only at hSw); have HYw := HY.out.only hSw (by simp); obtain ⟨-, z1⟩ := cells2 HYw; clear HYw; go_simp; try with_reducible rfl))
      refine wpAnyH_ready (rs := [5]) (by kernel_rfl) (by simp) ?_; refine (AllReadyH.cons rfl (fun K hK => ?_) AllReadyH.nil); go_simp; (go_at_call 102; refine (KK3.out _).mono ?_; rintro e2 w5 ⟨rfl, ho⟩)
      refine hK.out _ _ (by first | exact hHeld.trans ho | exact hHeld.trans (ho.mono (by simp))) (fun hN => ?_); clear hK K ho hHeld; have hHeld := hN; clear hN; (try simp only [zsa, zsb, zsc, Act.put, zsd, zse, zsf])
      refine wpAnyH_ready (rs := [8]) (by kernel_rfl) (by simp) ?_; refine (AllReadyH.cons rfl (fun K hK => ?_) AllReadyH.nil); go_simp; (go_at_call 65; refine (KO2.out _).mono ?_; rintro e2 w8 ⟨rfl, ho⟩)
      refine hK.out _ _ (by first | exact hHeld.trans ho | exact hHeld.trans (ho.mono (by simp))) (fun hN => ?_); clear hK K ho hHeld; have hHeld := hN; clear hN; (try simp only [zsa, zsb, zsc, Act.put, zsd, zse, zsf])
      refine tk 9 ?_; refine tk 10 ?_; refine tk 11 ?_; refine tk 12 ?_; refine tk 13 ?_; refine wpAnyH_done (by kernel_rfl) ?_ _
      replace HMB := hon HMB hHeld; replace HR := hon HR hHeld; replace HY := hon HY hHeld; replace HO := htr HO hHeld
      clear hHeld KA2 KK3 KO2
      rcases Decidable.em (qc = 0) with hm | hm
      · have hoq : (qc != 0) = false := by rw [bne_eq_false_iff_eq]; exact hm
        have H3 := hide hm
        clear hm
        go_upto_region 16 with (first
          | (go_at_call 39; (with_reducible refine (KR2.out _).mono ?_); rintro e2 w15 ⟨A1, n1, c1, A2, n2, c2, rfl, ho⟩; replace HMB := hon HMB ho; replace HR := hon HR ho; replace HY := hon HY ho; replace HO := htr HO ho; clear ho))
        have HN := hide (Blk.new w15 77 #[.int .i64 kq, .int .u64 (nq : Nat), .slice A1 n1 c1, .slice A2 n2 c2])
        have HGN := hide (show w.heap.size + 1 < w15.heap.size from HR.out.lt)
        replace HMB := hide (HMB.out.alloc (.cells #[.int .i64 kq, .int .u64 (nq : Nat), .slice A1 n1 c1, .slice A2 n2 c2] 77))
        replace HR := hide (HR.out.alloc (.cells #[.int .i64 kq, .int .u64 (nq : Nat), .slice A1 n1 c1, .slice A2 n2 c2] 77))
        replace HY := hide (HY.out.alloc (.cells #[.int .i64 kq, .int .u64 (nq : Nat), .slice A1 n1 c1, .slice A2 n2 c2] 77))
        replace HO := hide (HO.out.alloc (.cells #[.int .i64 kq, .int .u64 (nq : Nat), .slice A1 n1 c1, .slice A2 n2 c2] 77))
        generalize (w15.alloc (.cells #[.int .i64 kq, .int .u64 (nq : Nat), .slice A1 n1 c1, .slice A2 n2 c2] 77)) = w16 at *
        obtain ⟨g4, hg4⟩ : ∃ g, g = w15.heap.size := ⟨_, rfl⟩
        rw [← hg4] at HN HGN ⊢
        clear hg4 KR2
        obtain ⟨n0, -⟩ := cells4 HN.out
        rcases Decidable.em (kq = 3) with hm | hm
        · have hkb3 : (kq != 3) = false := by rw [bne_eq_false_iff_eq]; exact hm
          have H4 := hide hm
          clear hm
          go_upto_region 18 with (first
            | fail)
          clear n0
          replace HR := hide HR.out.drew
          refine wp_region_held_drew (S := fun W => Only [w.heap.size + 1] w16 W) (by kernel_rfl) (by exact (Only.refl [w.heap.size + 1] w16).drew) (fun hHeld => ?_); generalize w16.drew = wd18 at *
          refine tk 0 ?_; refine tk 1 ?_
          refine tk 2 ?_ (hy := by (intro w hSw; (try dsimp only at hSw); have HNw := HN.out.only hSw (by have := HGN.out; simp; omega); obtain ⟨-, n1, -⟩ := cells4 HNw; clear HNw; go_simp; try with_reducible rfl)); refine tk 3 ?_
          refine tk 4 ?_ (hy := by (intro w hSw; (try dsimp only at hSw); have HYw := HY.out.only hSw (by have := HGY.out; simp; omega); obtain ⟨z0, -⟩ := cells2 HYw; clear HYw; go_simp; try with_reducible rfl)); refine tk 5 ?_
          refine tk 7 ?_; refine tk 8 ?_ (hy := by (intro w hSw; (try dsimp only at hSw); have HYw := HY.out.only hSw (by have := HGY.out; simp; omega); obtain ⟨-, z1⟩ := cells2 HYw; clear HYw; go_simp; try with_reducible rfl))
          refine tk 9 ?_; refine tk 10 ?_ (hy := by (intro w hSw; (try dsimp only at hSw); have HMw := HMB.out.only hSw (by simp); obtain ⟨-, -, -, -, -, -, m6, -⟩ := cells13 HMw; clear HMw; go_simp; try with_reducible rfl))
          refine wpAnyH_ready (rs := [6]) (by kernel_rfl) (by simp) ?_; refine (AllReadyH.cons rfl (fun K hK => ?_) AllReadyH.nil); go_simp
          (go_at_call 102; refine (KK4.out _).mono ?_; rintro e2 w6 ⟨rfl, ho⟩; replace HR := hon HR ho)
          refine hK.out _ _ (by first | exact hHeld.trans ho | exact hHeld.trans (ho.mono (by simp))) (fun hN => ?_); clear hK K ho hHeld; have hHeld := hN; clear hN; (try simp only [zsa, zsb, zsc, Act.put, zsd, zse, zsf])
          refine wpAnyH_ready (rs := [11]) (by kernel_rfl) (by simp) ?_; refine (AllReadyH.cons rfl (fun K hK => ?_) AllReadyH.nil); go_simp
          (go_at_call 103; refine (KH2.out _).mono ?_; rintro e2 w11 ⟨rfl, ho⟩; replace HR := hon HR ho)
          refine hK.out _ _ (by first | exact hHeld.trans ho | exact hHeld.trans (ho.mono (by simp))) (fun hN => ?_); clear hK K ho hHeld; have hHeld := hN; clear hN; (try simp only [zsa, zsb, zsc, Act.put, zsd, zse, zsf])
          refine tk 12 ?_; refine tk 13 ?_; refine wpAnyH_ready (rs := [14]) (by kernel_rfl) (by simp) ?_; refine (AllReadyH.cons rfl (fun K hK => ?_) AllReadyH.nil); rw [if_pos (by rfl)]
          refine wp_store_mid _ _ _ rfl _ _ #[.string p, .int .u64 (nq : Nat), .string cC, .string hC] rfl rfl (blk_there HR.out _ rfl) (by kernel_rfl) (by simp [Value.oneCell']) ?_
          replace HR := hide (show Blk (w11.setCells (w.heap.size + 1) 0 [.string p, .int .u64 (nq : Nat), .string cC, .string hC]) _ _ #[.string p, .int .u64 (nq : Nat), .string cC, .string hC] from blk_stored HR.out [.string p, .int .u64 (nq : Nat), .string cC, .string hC] rfl)
          refine hK.out _ _ (by exact Only.setCells (.inl (by simp)) 0 [.string p, .int .u64 (nq : Nat), .string cC, .string hC] hHeld) (fun hHeldN => ?_); clear hK K hHeld; have hHeld := hHeldN; clear hHeldN
          (try simp only [zsa, zsb, zsc, Act.put, zsd, zse, zsf]); refine tk 15 ?_; refine wpAnyH_done (by kernel_rfl) ?_ _
          (repeat go_step)
          refine bodyPost_ret (results_cell_two rfl _ _ (w.heap.size + 1) 90 _ (0, 0) _ rfl HR.out Tryz.underlying90 rfl (by kernel_rfl)) rfl ?_
          exact Q6.out H1.out H2.out H3.out H4.out _ _ ⟨rfl, ((HO.out.mono (by simp)).trans hHeld).mono (by intro x hx; right; simp at hx; omega)⟩
        · have hkb3 : (kq != 3) = true := by rw [bne_iff_ne]; exact hm
          have H4 := hide hm
          clear hm
          go_upto_region 17 with (first
            | fail)
          clear HY HGY HN HGN n0 HMB
          rename World => wE
          (iterate 4 go_step)
          refine wpList_store_mid rfl _ _ _ rfl _ 0 #[.string ⟨#[]⟩, .int .u64 0, .string ⟨#[]⟩, .string ⟨#[]⟩] rfl rfl (blk_there HR.out _ rfl) (by kernel_rfl) (by simp [Value.oneCell']) ?_
          replace HR := hide (show Blk (wE.setCells (w.heap.size + 1) 0 [.string ⟨#[]⟩, .int .u64 0, .string ⟨#[]⟩, .string ⟨#[]⟩]) _ _ #[.string ⟨#[]⟩, .int .u64 0, .string ⟨#[]⟩, .string ⟨#[]⟩] from blk_stored HR.out [.string ⟨#[]⟩, .int .u64 0, .string ⟨#[]⟩, .string ⟨#[]⟩] rfl)
          replace HO := hide (only_stored HO.out (Nat.le_succ _) [.string ⟨#[]⟩, .int .u64 0, .string ⟨#[]⟩, .string ⟨#[]⟩])
          generalize (wE.setCells (w.heap.size + 1) 0 [.string ⟨#[]⟩, .int .u64 0, .string ⟨#[]⟩, .string ⟨#[]⟩]) = wz at *
          (repeat go_step)
          refine bodyPost_ret (results_cell_two rfl _ _ (w.heap.size + 1) 90 _ (0, 0) _ rfl HR.out Tryz.underlying90 rfl (by kernel_rfl)) rfl ?_
          exact Q5.out H1.out H2.out H3.out H4.out _ _ ⟨rfl, HO.out⟩
      · have hoq : (qc != 0) = true := by rw [bne_iff_ne]; exact hm
        have H3 := hide hm
        clear hm
        go_upto_region 14 with (first
          | fail)
        clear HY HGY HMB
        rename World => wE
        (iterate 4 go_step)
        refine wpList_store_mid rfl _ _ _ rfl _ 0 #[.string ⟨#[]⟩, .int .u64 0, .string ⟨#[]⟩, .string ⟨#[]⟩] rfl rfl (blk_there HR.out _ rfl) (by kernel_rfl) (by simp [Value.oneCell']) ?_
        replace HR := hide (show Blk (wE.setCells (w.heap.size + 1) 0 [.string ⟨#[]⟩, .int .u64 0, .string ⟨#[]⟩, .string ⟨#[]⟩]) _ _ #[.string ⟨#[]⟩, .int .u64 0, .string ⟨#[]⟩, .string ⟨#[]⟩] from blk_stored HR.out [.string ⟨#[]⟩, .int .u64 0, .string ⟨#[]⟩, .string ⟨#[]⟩] rfl)
        replace HO := hide (only_stored HO.out (Nat.le_succ _) [.string ⟨#[]⟩, .int .u64 0, .string ⟨#[]⟩, .string ⟨#[]⟩])
        generalize (wE.setCells (w.heap.size + 1) 0 [.string ⟨#[]⟩, .int .u64 0, .string ⟨#[]⟩, .string ⟨#[]⟩]) = wz at *
        (repeat go_step)
        refine bodyPost_ret (results_cell_two rfl _ _ (w.heap.size + 1) 90 _ (0, 0) _ rfl HR.out Tryz.underlying90 rfl (by kernel_rfl)) rfl ?_
        exact Q4.out H1.out H2.out H3.out _ _ ⟨rfl, HO.out⟩
    · have hpb1 : (kp != 5) = true := by rw [bne_iff_ne]; exact hm
      have H2 := hide hm
      clear hm
      go_upto_region 9 with (first
        | (go_at_call 39; (with_reducible refine (KR1.out _).mono ?_); rintro e2 w8 ⟨A1, n1, c1, A2, n2, c2, rfl, ho⟩; replace HMB := hon HMB ho; replace HR := hon HR ho; replace HX := hon HX ho; replace HO := htr HO ho; clear ho))
      clear HX HMB
      rename World => wE
      (iterate 4 go_step)
      refine wpList_store_mid rfl _ _ _ rfl _ 0 #[.string ⟨#[]⟩, .int .u64 0, .string ⟨#[]⟩, .string ⟨#[]⟩] rfl rfl (blk_there HR.out _ rfl) (by kernel_rfl) (by simp [Value.oneCell']) ?_
      replace HR := hide (show Blk (wE.setCells (w.heap.size + 1) 0 [.string ⟨#[]⟩, .int .u64 0, .string ⟨#[]⟩, .string ⟨#[]⟩]) _ _ #[.string ⟨#[]⟩, .int .u64 0, .string ⟨#[]⟩, .string ⟨#[]⟩] from blk_stored HR.out [.string ⟨#[]⟩, .int .u64 0, .string ⟨#[]⟩, .string ⟨#[]⟩] rfl)
      replace HO := hide (only_stored HO.out (Nat.le_succ _) [.string ⟨#[]⟩, .int .u64 0, .string ⟨#[]⟩, .string ⟨#[]⟩])
      generalize (wE.setCells (w.heap.size + 1) 0 [.string ⟨#[]⟩, .int .u64 0, .string ⟨#[]⟩, .string ⟨#[]⟩]) = wz at *
      (repeat go_step)
      refine bodyPost_ret (results_cell_two rfl _ _ (w.heap.size + 1) 90 _ (0, 0) _ rfl HR.out Tryz.underlying90 rfl (by kernel_rfl)) rfl ?_
      exact Q3.out H1.out H2.out _ _ ⟨rfl, HO.out⟩
  · have hob : (pc != 0) = true := by rw [bne_iff_ne]; exact hm
    have H1 := hide hm
    clear hm
    go_upto_region 7 with (first
      | fail)
    clear HX HMB
    rename World => wE
    (iterate 4 go_step)
    refine wpList_store_mid rfl _ _ _ rfl _ 0 #[.string ⟨#[]⟩, .int .u64 0, .string ⟨#[]⟩, .string ⟨#[]⟩] rfl rfl (blk_there HR.out _ rfl) (by kernel_rfl) (by simp [Value.oneCell']) ?_
    replace HR := hide (show Blk (wE.setCells (w.heap.size + 1) 0 [.string ⟨#[]⟩, .int .u64 0, .string ⟨#[]⟩, .string ⟨#[]⟩]) _ _ #[.string ⟨#[]⟩, .int .u64 0, .string ⟨#[]⟩, .string ⟨#[]⟩] from blk_stored HR.out [.string ⟨#[]⟩, .int .u64 0, .string ⟨#[]⟩, .string ⟨#[]⟩] rfl)
    replace HO := hide (only_stored HO.out (Nat.le_succ _) [.string ⟨#[]⟩, .int .u64 0, .string ⟨#[]⟩, .string ⟨#[]⟩])
    generalize (wE.setCells (w.heap.size + 1) 0 [.string ⟨#[]⟩, .int .u64 0, .string ⟨#[]⟩, .string ⟨#[]⟩]) = wz at *
    (repeat go_step)
    refine bodyPost_ret (results_cell_two rfl _ _ (w.heap.size + 1) 90 _ (0, 0) _ rfl HR.out Tryz.underlying90 rfl (by kernel_rfl)) rfl ?_
    exact Q2.out H1.out _ _ ⟨rfl, HO.out⟩
end
end Go.Proofs.YtfipdjlalfpbnaaGreatDoor

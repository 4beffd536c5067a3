/-
  Walks and plain words (texts Nh1). No condition beyond those that each theorem states.
-/
import Derived.Test.YtfipdjlalfpbnaaGreatDoorP35
namespace Go.Proofs.YtfipdjlalfpbnaaGreatDoor
section
open Go.RowKit Go.Deep

set_option maxRecDepth 100000 in
set_option maxHeartbeats 12800000 in
theorem Hear_walk (w : World) (sc : ByteArray) (k : Int) (sn r cc : Nat) (x4 x5 x6 x7 x8 x9 x10 x11 x12 : ByteArray) (hsc : sc.size ≤ maxLen) (hF : (Mg.mk k sn r cc x4 x5 x6 x7 x8 x9 x10 x11 x12).Fine) (hb : termsB [sc] = true) (hr : rightM (Mg.mk k sn r cc x4 x5 x6 x7 x8 x9 x10 x11 x12) = true) (hk : k = 1) (hpb : pubsB [x4] = true) (htab : Tab w) (p : ByteArray) (pc : Int) (q : ByteArray) (qc : Int) (pr cA hA uA kA cB hB uB kB cC hC : ByteArray) (e_pr : pubT sc = pr) (e_cA : begC x4 = cA) (e_hA : begH pr x4 = hA) (e_uA : agreeT sc x4 = uA) (e_kA : kdfT 2 cA uA = kA) (e_cB : kdfT 1 cA uA = cB) (e_hB : hashT hA x5 = hB) (e_uB : agreeT sc p = uB) (e_kB : kdfT 2 cB uB = kB) (e_cC : kdfT 1 cB uB = cC) (e_hC : hashT hB x6 = hC) (hp : openT x5 kA 0 hA = (p, pc)) (hq : openT x6 kB 0 hB = (q, qc)) (kq : Int) (hkq : kindT q = kq) (nq : Nat) (bq : Bool) (hvq : valT q = (nq, bq)) (Q : Ending → World → Prop) (q2 : madeB [cB, hA, kA] = false → ∀ e w', HeaPost 5 #[.int .u32 0, .string ⟨#[]⟩, .int .u64 0, .string ⟨#[]⟩, .string ⟨#[]⟩, .string ⟨#[]⟩] w e w' → Q e w') (q3 : madeB [cB, hA, kA] = true → ¬ pc = 0 → ∀ e w', HeaPost 8 #[.int .u32 0, .string ⟨#[]⟩, .int .u64 0, .string ⟨#[]⟩, .string ⟨#[]⟩, .string ⟨#[]⟩] w e w' → Q e w') (q4 : madeB [cB, hA, kA] = true → pc = 0 → pubsB [p] = false → ∀ e w', HeaPost 3 #[.int .u32 0, .string ⟨#[]⟩, .int .u64 0, .string ⟨#[]⟩, .string ⟨#[]⟩, .string ⟨#[]⟩] w e w' → Q e w') (q5 : madeB [cB, hA, kA] = true → pc = 0 → pubsB [p] = true → madeB [cC, hB, kB] = false → ∀ e w', HeaPost 5 #[.int .u32 0, .string ⟨#[]⟩, .int .u64 0, .string ⟨#[]⟩, .string ⟨#[]⟩, .string ⟨#[]⟩] w e w' → Q e w') (q6 : madeB [cB, hA, kA] = true → pc = 0 → pubsB [p] = true → madeB [cC, hB, kB] = true → ¬ qc = 0 → ∀ e w', HeaPost 8 #[.int .u32 0, .string ⟨#[]⟩, .int .u64 0, .string ⟨#[]⟩, .string ⟨#[]⟩, .string ⟨#[]⟩] w e w' → Q e w') (q7 : madeB [cB, hA, kA] = true → pc = 0 → pubsB [p] = true → madeB [cC, hB, kB] = true → qc = 0 → ¬ kq = 3 → ∀ e w', HeaPost 3 #[.int .u32 0, .string ⟨#[]⟩, .int .u64 0, .string ⟨#[]⟩, .string ⟨#[]⟩, .string ⟨#[]⟩] w e w' → Q e w') (q8 : madeB [cB, hA, kA] = true → pc = 0 → pubsB [p] = true → madeB [cC, hB, kB] = true → qc = 0 → kq = 3 → madeB [hC] = false → ∀ e w', HeaPost 5 #[.int .u32 0, .string ⟨#[]⟩, .int .u64 0, .string ⟨#[]⟩, .string ⟨#[]⟩, .string ⟨#[]⟩] w e w' → Q e w') (q9 : madeB [cB, hA, kA] = true → pc = 0 → pubsB [p] = true → madeB [cC, hB, kB] = true → qc = 0 → kq = 3 → madeB [hC] = true → ∀ e w', HeaPost 0 #[.int .u32 (sn : Nat), .string p, .int .u64 (nq : Nat), .string x4, .string cC, .string hC] w e w' → Q e w') : Calls Tryz.prog 41 #[.string sc, .agg #[.int .i64 k, .int .u32 (sn : Nat), .int .u32 (r : Nat), .int .u64 (cc : Nat), .string x4, .string x5, .string x6, .string x7, .string x8, .string x9, .string x10, .string x11, .string x12]] w Q := by
  have z_pr : pr.size ≤ maxLen := e_pr ▸ pubT_size _
  have z_cA : cA.size ≤ maxLen := e_cA ▸ kdfT_size 1 (by omega) _ _
  have z_hA : hA.size ≤ maxLen := e_hA ▸ hashT_size _ _
  have z_uA : uA.size ≤ maxLen := e_uA ▸ agreeT_size _ _
  have z_kA : kA.size ≤ maxLen := e_kA ▸ kdfT_size 2 (by omega) _ _
  have z_cB : cB.size ≤ maxLen := e_cB ▸ kdfT_size 1 (by omega) _ _
  have z_hB : hB.size ≤ maxLen := e_hB ▸ hashT_size _ _
  have z_uB : uB.size ≤ maxLen := e_uB ▸ agreeT_size _ _
  have z_kB : kB.size ≤ maxLen := e_kB ▸ kdfT_size 2 (by omega) _ _
  have z_cC : cC.size ≤ maxLen := e_cC ▸ kdfT_size 1 (by omega) _ _
  have z_hC : hC.size ≤ maxLen := e_hC ▸ hashT_size _ _
  have z_p : p.size ≤ maxLen := by have := open_max x5 kA 0 hA; rw [hp] at this; exact this
  have z_q : q.size ≤ maxLen := by have := open_max x6 kB 0 hB; rw [hq] at this; exact this
  have hx4 : x4.size ≤ maxLen := hF.x4
  have hx5 : x5.size ≤ maxLen := hF.x5
  have hx6 : x6.size ≤ maxLen := hF.x6
  have KE := hide (fun W h => public_any W sc hsc h)
  have KB := hide (fun W h => begin_any W pr x4 z_pr hx4 h)
  have KA1 := hide (fun W h => Agree_any W sc x4 hsc hx4 h)
  have KX1 := hide (fun W g hx h => mix_any W g cA hA uA hx z_cA z_uA h)
  have KM1 := hide (fun W G hG => made_new3 W G hG cB hA kA z_cB z_hA z_kA)
  have KO1 := hide (fun W => nopen_any W x5 kA hA hx5)
  have KP2 := hide (fun W G hG => pubs_new1 W G hG p z_p)
  have KD1 := hide (fun W g hx h => add_any W g cB hA x5 hx z_hA hx5 h)
  have KA2 := hide (fun W h => Agree_any W sc p hsc z_p h)
  have KX2 := hide (fun W g hx h => mix_any W g cB hB uB hx z_cB z_uB h)
  have KM2 := hide (fun W G hG => made_new3 W G hG cC hB kB z_cC z_hB z_kB)
  have KO2 := hide (fun W => nopen_any W x6 kB hB hx6)
  have KK := hide (fun W => Kind_any W q z_q)
  have KD2 := hide (fun W g hx h => add_any W g cC hB x6 hx z_hB hx6 h)
  have KM3 := hide (fun W G hG => made_new1 W G hG hC z_hC)
  have KV := hide (fun W => Value_any W q z_q)
  rw [e_pr] at KE
  rw [e_cA] at KB
  rw [e_hA] at KB
  rw [e_uA] at KA1
  rw [e_kA] at KX1
  rw [e_cB] at KX1
  rw [e_hB] at KD1
  rw [e_uB] at KA2
  rw [e_kB] at KX2
  rw [e_cC] at KX2
  rw [e_hC] at KD2
  unfold MakePost at KE
  unfold StatePost at KB
  unfold MakePost at KA1
  unfold StIs at KX1
  unfold RetB at KM1
  unfold RetB at KP2
  unfold StIs at KD1
  unfold MakePost at KA2
  unfold StIs at KX2
  unfold RetB at KM2
  unfold KindPost at KK
  unfold StIs at KD2
  unfold RetB at KM3
  unfold ValuePost at KV
  rw [hp] at KO1
  rw [hq] at KO2
  rw [hkq] at KK
  rw [hvq] at KV
  simp only at KO1 KO2 KV
  have Q2 := hide q2
  have Q3 := hide q3
  have Q4 := hide q4
  have Q5 := hide q5
  have Q6 := hide q6
  have Q7 := hide q7
  have Q8 := hide q8
  have Q9 := hide q9
  have KT := hide (fun W G hG => terms_new1 W G hG sc hsc)
  have KP := hide (fun W G hG => pubs_new1 W G hG x4 hF.x4)
  have HTM := hide (fun W => Terms_any W (Mg.mk k sn r cc x4 x5 x6 x7 x8 x9 x10 x11 x12) hF)
  have HTX := hide (fun (h : rightM (Mg.mk k sn r cc x4 x5 x6 x7 x8 x9 x10 x11 x12) = true) => texts_pos h)
  unfold RetB at KT KP
  unfold TermsPost at HTM
  have HMB := hide ((Blk.new w 25 #[.int .i64 k, .int .u32 (sn : Nat), .int .u32 (r : Nat), .int .u64 (cc : Nat), .string x4, .string x5, .string x6, .string x7, .string x8, .string x9, .string x10, .string x11, .string x12]).alloc (.cells #[.int .u32 0, .string ⟨#[]⟩, .int .u64 0, .string ⟨#[]⟩, .string ⟨#[]⟩, .string ⟨#[]⟩] 84))
  have HR := hide (Blk.new (w.alloc (.cells #[.int .i64 k, .int .u32 (sn : Nat), .int .u32 (r : Nat), .int .u64 (cc : Nat), .string x4, .string x5, .string x6, .string x7, .string x8, .string x9, .string x10, .string x11, .string x12] 25)) 84 #[.int .u32 0, .string ⟨#[]⟩, .int .u64 0, .string ⟨#[]⟩, .string ⟨#[]⟩, .string ⟨#[]⟩])
  rw [World.size_alloc] at HR
  have HO := hide (((Only.refl [] w).alloc (.cells #[.int .i64 k, .int .u32 (sn : Nat), .int .u32 (r : Nat), .int .u64 (cc : Nat), .string x4, .string x5, .string x6, .string x7, .string x8, .string x9, .string x10, .string x11, .string x12] 25)).alloc (.cells #[.int .u32 0, .string ⟨#[]⟩, .int .u64 0, .string ⟨#[]⟩, .string ⟨#[]⟩, .string ⟨#[]⟩] 84))
  rw [hb] at KT
  rw [hpb] at KP
  rw [hr] at HTM
  simp only [if_true] at HTM
  obtain ⟨tl, htl⟩ : ∃ l, textsM (Mg.mk k sn r cc x4 x5 x6 x7 x8 x9 x10 x11 x12) = l := ⟨_, rfl⟩
  rw [htl] at HTM HTX
  have hn0 := HTX.out hr
  obtain ⟨n2, hn2⟩ : ∃ n, n = tl.length := ⟨_, rfl⟩
  have HN2 := hide hn2.symm
  have hnp : (0 : Int) < n2 := by omega
  have hnq : ((n2 : Int) == 0) = false := by rw [beq_eq_false_iff_ne]; omega
  clear htl hn0 hn2 HTX
  have hkb : (k != 1) = false := by rw [bne_eq_false_iff_eq]; exact hk
  clear hb hr hk hpb hp hq
  have HT := hide htab
  clear htab hsc hF hx4 hx5 hx6 z_p z_q q2 q3 q4 q5 q6 q7 q8 q9 z_pr e_pr z_cA e_cA z_hA e_hA z_uA e_uA z_kA e_kA z_cB e_cB z_hB e_hB z_uB e_uB z_kB e_kB z_cC e_cC z_hC e_hC hkq hvq
  go_enter Tryz.func41, Tryz.ntmps41
  go_upto_region 1 with fail
  generalize ((w.alloc (.cells #[.int .i64 k, .int .u32 (sn : Nat), .int .u32 (r : Nat), .int .u64 (cc : Nat), .string x4, .string x5, .string x6, .string x7, .string x8, .string x9, .string x10, .string x11, .string x12] 25)).alloc (.cells #[.int .u32 0, .string ⟨#[]⟩, .int .u64 0, .string ⟨#[]⟩, .string ⟨#[]⟩, .string ⟨#[]⟩] 84)) = v0 at *
  obtain ⟨m0, m1, m2, m3, m4, m5, m6, m7, m8, m9, m10, m11, m12⟩ := cells13 HMB.out; obtain ⟨r0, r1, r2, r3, r4, r5⟩ := cells6 HR.out; have rf := HR.out.frozen
  go_upto_region 3 with (first
    | (go_at_call 88; refine (KT.out _ _ rfl).mono ?_; rintro e wt ⟨rfl, ho⟩; replace HMB := hon HMB ho; replace HR := hon HR ho; replace HO := htr HO ho; clear ho; (first | (clear m0 m1 m2 m3 m4 m5 m6 m7 m8 m9 m10 m11 m12; clear r0 r1 r2 r3 r4 r5 rf) | skip); obtain ⟨m0, m1, m2, m3, m4, m5, m6, m7, m8, m9, m10, m11, m12⟩ := cells13 HMB.out; obtain ⟨r0, r1, r2, r3, r4, r5⟩ := cells6 HR.out; have rf := HR.out.frozen)
    | (go_at_call 56; refine (HTM.out _).mono ?_; rintro e wq ⟨ho, v, rfl, hrd⟩; obtain ⟨A2, cp, hv, hcc, hmm⟩ := hrd.form; replace hv : v = .slice A2 n2 cp := (by rw [hv, show (strc tl).length = tl.length by simp [strc], HN2.out]); subst hv; clear hrd hcc hmm; replace HMB := hon HMB ho; replace HR := hon HR ho; replace HO := htr HO ho; clear ho; (first | (clear m0 m1 m2 m3 m4 m5 m6 m7 m8 m9 m10 m11 m12; clear r0 r1 r2 r3 r4 r5 rf) | skip); obtain ⟨m0, m1, m2, m3, m4, m5, m6, m7, m8, m9, m10, m11, m12⟩ := cells13 HMB.out; obtain ⟨r0, r1, r2, r3, r4, r5⟩ := cells6 HR.out; have rf := HR.out.frozen)
    | (go_at_call 89; refine (KP.out _ _ rfl).mono ?_; rintro e wp ⟨rfl, ho⟩; replace HMB := hon HMB ho; replace HR := hon HR ho; replace HO := htr HO ho; clear ho; (first | (clear m0 m1 m2 m3 m4 m5 m6 m7 m8 m9 m10 m11 m12; clear r0 r1 r2 r3 r4 r5 rf) | skip); obtain ⟨m0, m1, m2, m3, m4, m5, m6, m7, m8, m9, m10, m11, m12⟩ := cells13 HMB.out; obtain ⟨r0, r1, r2, r3, r4, r5⟩ := cells6 HR.out; have rf := HR.out.frozen))
  clear m0 m1 m2 m3 m4 m5 m6 m7 m8 m9 m10 m11 m12; clear r0 r1 r2 r3 r4 r5 rf
  go_cut [6] (fun pv w' => ∃ g2, pv = .pointer (some ⟨g2, 0, none⟩) ∧ wp.heap.size ≤ g2 ∧ Hid (Blk w' g2 128 #[.string cA, .string hA]) ∧ Hid (Only [] wp w'))
  case first =>
    rename_i JJ KK hJJ hKK
    refine wp_region_held_drew (S := fun W => Only [] wp W) (by kernel_rfl) (by exact (Only.refl [] wp).drew) (fun hHeld => ?_); generalize wp.drew = wd3 at *
    refine tk 0 ?_; refine tk 2 ?_; refine tk 3 ?_ (hy := by (intro w hSw; (try dsimp only at hSw); have HMw := HMB.out.only hSw (by simp); obtain ⟨-, -, -, -, m4, -⟩ := cells13 HMw; clear HMw; go_simp; try with_reducible rfl))
    refine wpAnyH_ready (rs := [1, 5]) (by kernel_rfl) (by simp) ?_; refine (AllReadyH.cons rfl (fun K hK => ?_) (AllReadyH.cons rfl (fun K hK => ?_) AllReadyH.nil))
    · go_simp; (go_at_call 90; refine (KE.out _ (HT.out.only (HO.out.trans hHeld) (by simp))).mono ?_; rintro e2 w1 ⟨rfl, ho⟩)
      refine hK.out _ _ (by first | exact hHeld.trans ho | exact hHeld.trans (ho.mono (by simp))) (fun hN => ?_); clear hK K ho hHeld; have hHeld := hN; clear hN; (try simp only [zsa, zsb, zsc, Act.put, zsd, zse, zsf])
      refine wpAnyH_ready (rs := [4, 5]) (by kernel_rfl) (by simp) ?_; refine (AllReadyH.cons rfl (fun K hK => ?_) (AllReadyH.cons rfl (fun K hK => ?_) AllReadyH.nil))
      · go_simp; (go_at_call 91; refine (KB.out _ (HT.out.only (HO.out.trans hHeld) (by simp))).mono ?_; rintro e2 w4 ⟨rfl, ho⟩)
        refine hK.out _ _ (by first | exact hHeld.trans ho | exact hHeld.trans (ho.mono (by simp))) (fun hN => ?_); clear hK K ho hHeld; have hHeld := hN; clear hN; (try simp only [zsa, zsb, zsc, Act.put, zsd, zse, zsf])
        refine wpAnyH_ready (rs := [5]) (by kernel_rfl) (by simp) ?_; refine (AllReadyH.cons rfl (fun K hK => ?_) AllReadyH.nil); go_simp; have HNS := hide hHeld.size; refine hK.out _ _ (by exact hHeld.alloc _) (fun hN => ?_)
        clear hK K hHeld; have hHeld := hN; clear hN; (try simp only [zsa, zsb, zsc, Act.put, zsd, zse, zsf]); have HNM := hide (Blk.new w4 128 #[.string ⟨#[]⟩, .string ⟨#[]⟩])
        generalize (w4.alloc (.cells #[.string ⟨#[]⟩, .string ⟨#[]⟩] 128)) = w5 at *
        refine wpAnyH_ready (rs := [6]) (by kernel_rfl) (by simp) ?_; refine (AllReadyH.cons rfl (fun K hK => ?_) AllReadyH.nil); rw [if_pos (by rfl)]
        refine wp_store_mid _ _ _ rfl _ _ #[.string cA, .string hA] rfl rfl (blk_there HNM.out _ rfl) (by kernel_rfl) (by simp [Value.oneCell']) ?_
        have HST := hide (show Blk (w5.setCells _ 0 [.string cA, .string hA]) _ 128 #[.string cA, .string hA] from blk_stored HNM.out [.string cA, .string hA] rfl)
        refine hK.out _ _ (by exact only_stored hHeld HNS.out [.string cA, .string hA]) (fun hHeldN => ?_); clear hK K hHeld; have hHeld := hHeldN; clear hHeldN; (try simp only [zsa, zsb, zsc, Act.put])
        refine wpAnyH_done (by kernel_rfl) ?_ _; dsimp only [Exit.then]; refine hKK _ _ ?_; go_meet; exact ⟨_, rfl, HNS.out, HST, hide hHeld⟩
      · go_simp; have HNS := hide hHeld.size; refine hK.out _ _ (by exact hHeld.alloc _) (fun hN => ?_); clear hK K hHeld; have hHeld := hN; clear hN; (try simp only [zsa, zsb, zsc, Act.put, zsd, zse, zsf])
        have HNM := hide (Blk.new w1 128 #[.string ⟨#[]⟩, .string ⟨#[]⟩]); generalize (w1.alloc (.cells #[.string ⟨#[]⟩, .string ⟨#[]⟩] 128)) = w5 at *
        refine wpAnyH_ready (rs := [4]) (by kernel_rfl) (by simp) ?_; refine (AllReadyH.cons rfl (fun K hK => ?_) AllReadyH.nil); go_simp
        (go_at_call 91; refine (KB.out _ (HT.out.only (HO.out.trans hHeld) (by simp))).mono ?_; rintro e2 w4 ⟨rfl, ho⟩; replace HNM := hon HNM ho)
        refine hK.out _ _ (by first | exact hHeld.trans ho | exact hHeld.trans (ho.mono (by simp))) (fun hN => ?_); clear hK K ho hHeld; have hHeld := hN; clear hN; (try simp only [zsa, zsb, zsc, Act.put, zsd, zse, zsf])
        refine wpAnyH_ready (rs := [6]) (by kernel_rfl) (by simp) ?_; refine (AllReadyH.cons rfl (fun K hK => ?_) AllReadyH.nil); rw [if_pos (by rfl)]
        refine wp_store_mid _ _ _ rfl _ _ #[.string cA, .string hA] rfl rfl (blk_there HNM.out _ rfl) (by kernel_rfl) (by simp [Value.oneCell']) ?_
        have HST := hide (show Blk (w4.setCells _ 0 [.string cA, .string hA]) _ 128 #[.string cA, .string hA] from blk_stored HNM.out [.string cA, .string hA] rfl)
        refine hK.out _ _ (by exact only_stored hHeld HNS.out [.string cA, .string hA]) (fun hHeldN => ?_); clear hK K hHeld; have hHeld := hHeldN; clear hHeldN; (try simp only [zsa, zsb, zsc, Act.put])
        refine wpAnyH_done (by kernel_rfl) ?_ _; dsimp only [Exit.then]; refine hKK _ _ ?_; go_meet; exact ⟨_, rfl, HNS.out, HST, hide hHeld⟩
    · go_simp; have HNS := hide hHeld.size; refine hK.out _ _ (by exact hHeld.alloc _) (fun hN => ?_); clear hK K hHeld; have hHeld := hN; clear hN; (try simp only [zsa, zsb, zsc, Act.put, zsd, zse, zsf])
      have HNM := hide (Blk.new wd3 128 #[.string ⟨#[]⟩, .string ⟨#[]⟩]); generalize (wd3.alloc (.cells #[.string ⟨#[]⟩, .string ⟨#[]⟩] 128)) = w5 at *
      refine wpAnyH_ready (rs := [1]) (by kernel_rfl) (by simp) ?_; refine (AllReadyH.cons rfl (fun K hK => ?_) AllReadyH.nil); go_simp
      (go_at_call 90; refine (KE.out _ (HT.out.only (HO.out.trans hHeld) (by simp))).mono ?_; rintro e2 w1 ⟨rfl, ho⟩; replace HNM := hon HNM ho)
      refine hK.out _ _ (by first | exact hHeld.trans ho | exact hHeld.trans (ho.mono (by simp))) (fun hN => ?_); clear hK K ho hHeld; have hHeld := hN; clear hN; (try simp only [zsa, zsb, zsc, Act.put, zsd, zse, zsf])
      refine wpAnyH_ready (rs := [4]) (by kernel_rfl) (by simp) ?_; refine (AllReadyH.cons rfl (fun K hK => ?_) AllReadyH.nil); go_simp
      (go_at_call 91; refine (KB.out _ (HT.out.only (HO.out.trans hHeld) (by simp))).mono ?_; rintro e2 w4 ⟨rfl, ho⟩; replace HNM := hon HNM ho)
      refine hK.out _ _ (by first | exact hHeld.trans ho | exact hHeld.trans (ho.mono (by simp))) (fun hN => ?_); clear hK K ho hHeld; have hHeld := hN; clear hN; (try simp only [zsa, zsb, zsc, Act.put, zsd, zse, zsf])
      refine wpAnyH_ready (rs := [6]) (by kernel_rfl) (by simp) ?_; refine (AllReadyH.cons rfl (fun K hK => ?_) AllReadyH.nil); rw [if_pos (by rfl)]
      refine wp_store_mid _ _ _ rfl _ _ #[.string cA, .string hA] rfl rfl (blk_there HNM.out _ rfl) (by kernel_rfl) (by simp [Value.oneCell']) ?_
      have HST := hide (show Blk (w4.setCells _ 0 [.string cA, .string hA]) _ 128 #[.string cA, .string hA] from blk_stored HNM.out [.string cA, .string hA] rfl)
      refine hK.out _ _ (by exact only_stored hHeld HNS.out [.string cA, .string hA]) (fun hHeldN => ?_); clear hK K hHeld; have hHeld := hHeldN; clear hHeldN; (try simp only [zsa, zsb, zsc, Act.put])
      refine wpAnyH_done (by kernel_rfl) ?_ _; dsimp only [Exit.then]; refine hKK _ _ ?_; go_meet; exact ⟨_, rfl, HNS.out, HST, hide hHeld⟩
  obtain ⟨g, rfl, hg2, HX, HO2⟩ := hcut
  have HGN := hide (show w.heap.size + 1 < g from Nat.lt_of_lt_of_le HR.out.lt hg2)
  replace HMB := hon HMB HO2.out
  replace HR := hon HR HO2.out
  replace HO := htr HO HO2.out
  clear HO2 hg2 KE KB KT KP HTM
  rename World => w3
  obtain ⟨-, -, -, -, m4, m5, m6, -⟩ := cells13 HMB.out
  obtain ⟨x0, x1⟩ := cells2 HX.out
  have xf := HX.out.frozen
  go_upto_region 5 with (first
    | (go_at_call 93; (with_reducible refine (KA1.out _ (HT.out.only HO.out (by simp))).mono ?_); rintro e2 w4 ⟨rfl, ho⟩; replace HMB := hon HMB ho; replace HR := hon HR ho; replace HX := hon HX ho; replace HO := htr HO ho; clear ho; (first | (clear m4 m5 m6 x0 x1 xf) | skip); obtain ⟨-, -, -, -, m4, m5, m6, -⟩ := cells13 HMB.out; obtain ⟨x0, x1⟩ := cells2 HX.out; have xf := HX.out.frozen)
    | (go_at_call 92; (with_reducible refine (KX1.out _ g HX.out (HT.out.only HO.out (by simp))).mono ?_); rintro e2 w5 ⟨rfl, hx, ho⟩; replace HMB := hide (HMB.out.only ho (by have := HGN.out; simp; omega)); replace HR := hide (HR.out.only ho (by have := HGN.out; simp; omega)); replace HX := hide hx; clear hx; replace HO := hide (((HO.out.mono (S' := [g]) (by simp)).trans ho).mono (S' := []) (by intro x hx; right; simp at hx; have := HGN.out; omega)); clear ho; (first | (clear m4 m5 m6 x0 x1 xf) | skip); obtain ⟨-, -, -, -, m4, m5, m6, -⟩ := cells13 HMB.out; obtain ⟨x0, x1⟩ := cells2 HX.out; have xf := HX.out.frozen))
  rcases Bool.eq_false_or_eq_true (madeB [cB, hA, kA]) with hm | hm
  · rw [hm] at KM1
    have H1 := hide hm
    clear hm
    go_upto_region 7 with (first
      | (go_at_call 96; (with_reducible refine (KM1.out _ _ rfl).mono ?_); rintro e2 w6 ⟨rfl, ho⟩; replace HMB := hon HMB ho; replace HR := hon HR ho; replace HX := hon HX ho; replace HO := htr HO ho; clear ho; (first | (clear m4 m5 m6 x0 x1 xf) | skip); obtain ⟨-, -, -, -, m4, m5, m6, -⟩ := cells13 HMB.out; obtain ⟨x0, x1⟩ := cells2 HX.out; have xf := HX.out.frozen))
    rcases Decidable.em (pc = 0) with hm | hm
    · have hob : (pc == 0) = true := by rw [beq_iff_eq]; exact hm
      rw [hob] at KO1
      have H2 := hide hm
      clear hm hob
      go_upto_region 10 with (first
        | (go_at_call 100; (with_reducible refine (KO1.out _).mono ?_); rintro e2 w7 ⟨rfl, ho⟩; replace HMB := hon HMB ho; replace HR := hon HR ho; replace HX := hon HX ho; replace HO := htr HO ho; clear ho; (first | (clear m4 m5 m6 x0 x1 xf) | skip); obtain ⟨-, -, -, -, m4, m5, m6, -⟩ := cells13 HMB.out; obtain ⟨x0, x1⟩ := cells2 HX.out; have xf := HX.out.frozen))
      rcases Bool.eq_false_or_eq_true (pubsB [p]) with hm | hm
      · rw [hm] at KP2
        have H3 := hide hm
        clear hm
        go_upto_region 12 with (first
          | (go_at_call 89; (with_reducible refine (KP2.out _ _ rfl).mono ?_); rintro e2 w8 ⟨rfl, ho⟩; replace HMB := hon HMB ho; replace HR := hon HR ho; replace HX := hon HX ho; replace HO := htr HO ho; clear ho; (first | (clear m4 m5 m6 x0 x1 xf) | skip); obtain ⟨-, -, -, -, m4, m5, m6, -⟩ := cells13 HMB.out; obtain ⟨x0, x1⟩ := cells2 HX.out; have xf := HX.out.frozen))
        clear KA1 KX1 KM1 KO1 KP2
        go_upto_region 14 with (first
          | (go_at_call 95; (with_reducible refine (KD1.out _ g HX.out (HT.out.only HO.out (by simp))).mono ?_); rintro e2 w9 ⟨rfl, hx, ho⟩; replace HMB := hide (HMB.out.only ho (by have := HGN.out; simp; omega)); replace HR := hide (HR.out.only ho (by have := HGN.out; simp; omega)); replace HX := hide hx; clear hx; replace HO := hide (((HO.out.mono (S' := [g]) (by simp)).trans ho).mono (S' := []) (by intro x hx; right; simp at hx; have := HGN.out; omega)); clear ho; (first | (clear m4 m5 m6 x0 x1 xf) | skip); obtain ⟨-, -, -, -, m4, m5, m6, -⟩ := cells13 HMB.out; obtain ⟨x0, x1⟩ := cells2 HX.out; have xf := HX.out.frozen)
          | (go_at_call 93; (with_reducible refine (KA2.out _ (HT.out.only HO.out (by simp))).mono ?_); rintro e2 w10 ⟨rfl, ho⟩; replace HMB := hon HMB ho; replace HR := hon HR ho; replace HX := hon HX ho; replace HO := htr HO ho; clear ho; (first | (clear m4 m5 m6 x0 x1 xf) | skip); obtain ⟨-, -, -, -, m4, m5, m6, -⟩ := cells13 HMB.out; obtain ⟨x0, x1⟩ := cells2 HX.out; have xf := HX.out.frozen)
          | (go_at_call 92; (with_reducible refine (KX2.out _ g HX.out (HT.out.only HO.out (by simp))).mono ?_); rintro e2 w11 ⟨rfl, hx, ho⟩; replace HMB := hide (HMB.out.only ho (by have := HGN.out; simp; omega)); replace HR := hide (HR.out.only ho (by have := HGN.out; simp; omega)); replace HX := hide hx; clear hx; replace HO := hide (((HO.out.mono (S' := [g]) (by simp)).trans ho).mono (S' := []) (by intro x hx; right; simp at hx; have := HGN.out; omega)); clear ho; (first | (clear m4 m5 m6 x0 x1 xf) | skip); obtain ⟨-, -, -, -, m4, m5, m6, -⟩ := cells13 HMB.out; obtain ⟨x0, x1⟩ := cells2 HX.out; have xf := HX.out.frozen))
        rcases Bool.eq_false_or_eq_true (madeB [cC, hB, kB]) with hm | hm
        · rw [hm] at KM2
          have H4 := hide hm
          clear hm
          go_upto_region 16 with (first
            | (go_at_call 96; (with_reducible refine (KM2.out _ _ rfl).mono ?_); rintro e2 w12 ⟨rfl, ho⟩; replace HMB := hon HMB ho; replace HR := hon HR ho; replace HX := hon HX ho; replace HO := htr HO ho; clear ho; (first | (clear m4 m5 m6 x0 x1 xf) | skip); obtain ⟨-, -, -, -, m4, m5, m6, -⟩ := cells13 HMB.out; obtain ⟨x0, x1⟩ := cells2 HX.out; have xf := HX.out.frozen))
          rcases Decidable.em (qc = 0) with hm | hm
          · have hob : (qc == 0) = true := by rw [beq_iff_eq]; exact hm
            rw [hob] at KO2
            have H5 := hide hm
            clear hm hob
            go_upto_region 19 with (first
              | (go_at_call 100; (with_reducible refine (KO2.out _).mono ?_); rintro e2 w13 ⟨rfl, ho⟩; replace HMB := hon HMB ho; replace HR := hon HR ho; replace HX := hon HX ho; replace HO := htr HO ho; clear ho; (first | (clear m4 m5 m6 x0 x1 xf) | skip); obtain ⟨-, -, -, -, m4, m5, m6, -⟩ := cells13 HMB.out; obtain ⟨x0, x1⟩ := cells2 HX.out; have xf := HX.out.frozen))
            rcases Decidable.em (kq = 3) with hm | hm
            · rw [hm] at KK
              have H6 := hide hm
              clear hm
              go_upto_region 21 with (first
                | (go_at_call 51; (with_reducible refine (KK.out _).mono ?_); rintro e2 w14 ⟨rfl, ho⟩; replace HMB := hon HMB ho; replace HR := hon HR ho; replace HX := hon HX ho; replace HO := htr HO ho; clear ho; (first | (clear m4 m5 m6 x0 x1 xf) | skip); obtain ⟨-, -, -, -, m4, m5, m6, -⟩ := cells13 HMB.out; obtain ⟨x0, x1⟩ := cells2 HX.out; have xf := HX.out.frozen))
              clear KD1 KA2 KX2 KM2 KO2 KK
              go_upto_region 22 with (first
                | (go_at_call 95; (with_reducible refine (KD2.out _ g HX.out (HT.out.only HO.out (by simp))).mono ?_); rintro e2 w15 ⟨rfl, hx, ho⟩; replace HMB := hide (HMB.out.only ho (by have := HGN.out; simp; omega)); replace HR := hide (HR.out.only ho (by have := HGN.out; simp; omega)); replace HX := hide hx; clear hx; replace HO := hide (((HO.out.mono (S' := [g]) (by simp)).trans ho).mono (S' := []) (by intro x hx; right; simp at hx; have := HGN.out; omega)); clear ho; (first | (clear m4 m5 m6 x0 x1 xf) | skip); obtain ⟨-, -, -, -, m4, m5, m6, -⟩ := cells13 HMB.out; obtain ⟨x0, x1⟩ := cells2 HX.out; have xf := HX.out.frozen))
              rcases Bool.eq_false_or_eq_true (madeB [hC]) with hm | hm
              · rw [hm] at KM3
                have H7 := hide hm
                clear hm
                go_upto_region 24 with (first
                  | (go_at_call 96; (with_reducible refine (KM3.out _ _ rfl).mono ?_); rintro e2 w16 ⟨rfl, ho⟩; replace HMB := hon HMB ho; replace HR := hon HR ho; replace HX := hon HX ho; replace HO := htr HO ho; clear ho; (first | (clear m4 m5 m6 x0 x1 xf) | skip); obtain ⟨-, -, -, -, m4, m5, m6, -⟩ := cells13 HMB.out; obtain ⟨x0, x1⟩ := cells2 HX.out; have xf := HX.out.frozen))
                go_upto_region 25 with (first
                  | (go_at_call 62; (with_reducible refine (KV.out _).mono ?_); rintro e2 w17 ⟨rfl, ho⟩; replace HMB := hon HMB ho; replace HR := hon HR ho; replace HX := hon HX ho; replace HO := htr HO ho; clear ho; (first | (clear m4 m5 m6 x0 x1 xf) | skip); obtain ⟨-, -, -, -, m4, m5, m6, -⟩ := cells13 HMB.out; obtain ⟨x0, x1⟩ := cells2 HX.out; have xf := HX.out.frozen))
                obtain ⟨-, m1, -⟩ := cells13 HMB.out
                obtain ⟨r0, r1, r2, r3, r4, r5⟩ := cells6 HR.out
                have rf := HR.out.frozen
                clear HX HGN HT
                go_wp2_with fail
                refine bodyPost_ret (results_cell_two rfl _ _ (w.heap.size + 1) 84 _ (0, 0) _ rfl (set6 HR.out (.int .u32 (sn : Nat)) (.string p) (.int .u64 (nq : Nat)) (.string x4) (.string cC) (.string hC)) Tryz.underlying84 rfl (by kernel_rfl)) rfl ?_
                exact Q9.out H1.out H2.out H3.out H4.out H5.out H6.out H7.out _ _ ⟨rfl, only6 HO.out (.inr (by omega)) (.int .u32 (sn : Nat)) (.string p) (.int .u64 (nq : Nat)) (.string x4) (.string cC) (.string hC)⟩
              · rw [hm] at KM3
                have H7 := hide hm
                clear hm
                go_upto_region 23 with (first
                  | (go_at_call 96; (with_reducible refine (KM3.out _ _ rfl).mono ?_); rintro e2 w16 ⟨rfl, ho⟩; replace HMB := hon HMB ho; replace HR := hon HR ho; replace HX := hon HX ho; replace HO := htr HO ho; clear ho; (first | (clear m4 m5 m6 x0 x1 xf) | skip); obtain ⟨-, -, -, -, m4, m5, m6, -⟩ := cells13 HMB.out; obtain ⟨x0, x1⟩ := cells2 HX.out; have xf := HX.out.frozen))
                clear HX HGN HT HMB
                (try clear m4 m5 m6 x0 x1 xf)
                rename World => wE
                (iterate 4 go_step)
                refine wpList_store_mid rfl _ _ _ rfl _ 0 #[.int .u32 0, .string ⟨#[]⟩, .int .u64 0, .string ⟨#[]⟩, .string ⟨#[]⟩, .string ⟨#[]⟩] rfl rfl (blk_there HR.out _ rfl) (by kernel_rfl) (by simp [Value.oneCell']) ?_
                replace HR := hide (show Blk (wE.setCells (w.heap.size + 1) 0 [.int .u32 0, .string ⟨#[]⟩, .int .u64 0, .string ⟨#[]⟩, .string ⟨#[]⟩, .string ⟨#[]⟩]) _ _ #[.int .u32 0, .string ⟨#[]⟩, .int .u64 0, .string ⟨#[]⟩, .string ⟨#[]⟩, .string ⟨#[]⟩] from blk_stored HR.out [.int .u32 0, .string ⟨#[]⟩, .int .u64 0, .string ⟨#[]⟩, .string ⟨#[]⟩, .string ⟨#[]⟩] rfl)
                replace HO := hide (only_stored HO.out (Nat.le_succ _) [.int .u32 0, .string ⟨#[]⟩, .int .u64 0, .string ⟨#[]⟩, .string ⟨#[]⟩, .string ⟨#[]⟩])
                generalize (wE.setCells (w.heap.size + 1) 0 [.int .u32 0, .string ⟨#[]⟩, .int .u64 0, .string ⟨#[]⟩, .string ⟨#[]⟩, .string ⟨#[]⟩]) = wz at *
                (repeat go_step)
                refine bodyPost_ret (results_cell_two rfl _ _ (w.heap.size + 1) 84 _ (0, 0) _ rfl HR.out Tryz.underlying84 rfl (by kernel_rfl)) rfl ?_
                exact Q8.out H1.out H2.out H3.out H4.out H5.out H6.out H7.out _ _ ⟨rfl, HO.out⟩
            · have hkb3 : (kq != 3) = true := by rw [bne_iff_ne]; exact hm
              have H6 := hide hm
              clear hm
              go_upto_region 20 with (first
                | (go_at_call 51; (with_reducible refine (KK.out _).mono ?_); rintro e2 w14 ⟨rfl, ho⟩; replace HMB := hon HMB ho; replace HR := hon HR ho; replace HX := hon HX ho; replace HO := htr HO ho; clear ho; (first | (clear m4 m5 m6 x0 x1 xf) | skip); obtain ⟨-, -, -, -, m4, m5, m6, -⟩ := cells13 HMB.out; obtain ⟨x0, x1⟩ := cells2 HX.out; have xf := HX.out.frozen))
              clear HX HGN HT HMB
              (try clear m4 m5 m6 x0 x1 xf)
              rename World => wE
              (iterate 4 go_step)
              refine wpList_store_mid rfl _ _ _ rfl _ 0 #[.int .u32 0, .string ⟨#[]⟩, .int .u64 0, .string ⟨#[]⟩, .string ⟨#[]⟩, .string ⟨#[]⟩] rfl rfl (blk_there HR.out _ rfl) (by kernel_rfl) (by simp [Value.oneCell']) ?_
              replace HR := hide (show Blk (wE.setCells (w.heap.size + 1) 0 [.int .u32 0, .string ⟨#[]⟩, .int .u64 0, .string ⟨#[]⟩, .string ⟨#[]⟩, .string ⟨#[]⟩]) _ _ #[.int .u32 0, .string ⟨#[]⟩, .int .u64 0, .string ⟨#[]⟩, .string ⟨#[]⟩, .string ⟨#[]⟩] from blk_stored HR.out [.int .u32 0, .string ⟨#[]⟩, .int .u64 0, .string ⟨#[]⟩, .string ⟨#[]⟩, .string ⟨#[]⟩] rfl)
              replace HO := hide (only_stored HO.out (Nat.le_succ _) [.int .u32 0, .string ⟨#[]⟩, .int .u64 0, .string ⟨#[]⟩, .string ⟨#[]⟩, .string ⟨#[]⟩])
              generalize (wE.setCells (w.heap.size + 1) 0 [.int .u32 0, .string ⟨#[]⟩, .int .u64 0, .string ⟨#[]⟩, .string ⟨#[]⟩, .string ⟨#[]⟩]) = wz at *
              (repeat go_step)
              refine bodyPost_ret (results_cell_two rfl _ _ (w.heap.size + 1) 84 _ (0, 0) _ rfl HR.out Tryz.underlying84 rfl (by kernel_rfl)) rfl ?_
              exact Q7.out H1.out H2.out H3.out H4.out H5.out H6.out _ _ ⟨rfl, HO.out⟩
          · have hob : (qc == 0) = false := by rw [beq_eq_false_iff_ne]; exact hm
            rw [hob] at KO2
            have H5 := hide hm
            clear hm hob
            go_upto_region 18 with (first
              | (go_at_call 100; (with_reducible refine (KO2.out _).mono ?_); rintro e2 w13 ⟨rfl, ho⟩; replace HMB := hon HMB ho; replace HR := hon HR ho; replace HX := hon HX ho; replace HO := htr HO ho; clear ho; (first | (clear m4 m5 m6 x0 x1 xf) | skip); obtain ⟨-, -, -, -, m4, m5, m6, -⟩ := cells13 HMB.out; obtain ⟨x0, x1⟩ := cells2 HX.out; have xf := HX.out.frozen))
            clear HX HGN HT HMB
            (try clear m4 m5 m6 x0 x1 xf)
            rename World => wE
            (iterate 4 go_step)
            refine wpList_store_mid rfl _ _ _ rfl _ 0 #[.int .u32 0, .string ⟨#[]⟩, .int .u64 0, .string ⟨#[]⟩, .string ⟨#[]⟩, .string ⟨#[]⟩] rfl rfl (blk_there HR.out _ rfl) (by kernel_rfl) (by simp [Value.oneCell']) ?_
            replace HR := hide (show Blk (wE.setCells (w.heap.size + 1) 0 [.int .u32 0, .string ⟨#[]⟩, .int .u64 0, .string ⟨#[]⟩, .string ⟨#[]⟩, .string ⟨#[]⟩]) _ _ #[.int .u32 0, .string ⟨#[]⟩, .int .u64 0, .string ⟨#[]⟩, .string ⟨#[]⟩, .string ⟨#[]⟩] from blk_stored HR.out [.int .u32 0, .string ⟨#[]⟩, .int .u64 0, .string ⟨#[]⟩, .string ⟨#[]⟩, .string ⟨#[]⟩] rfl)
            replace HO := hide (only_stored HO.out (Nat.le_succ _) [.int .u32 0, .string ⟨#[]⟩, .int .u64 0, .string ⟨#[]⟩, .string ⟨#[]⟩, .string ⟨#[]⟩])
            generalize (wE.setCells (w.heap.size + 1) 0 [.int .u32 0, .string ⟨#[]⟩, .int .u64 0, .string ⟨#[]⟩, .string ⟨#[]⟩, .string ⟨#[]⟩]) = wz at *
            (repeat go_step)
            refine bodyPost_ret (results_cell_two rfl _ _ (w.heap.size + 1) 84 _ (0, 0) _ rfl HR.out Tryz.underlying84 rfl (by kernel_rfl)) rfl ?_
            exact Q6.out H1.out H2.out H3.out H4.out H5.out _ _ ⟨rfl, HO.out⟩
        · rw [hm] at KM2
          have H4 := hide hm
          clear hm
          go_upto_region 15 with (first
            | (go_at_call 96; (with_reducible refine (KM2.out _ _ rfl).mono ?_); rintro e2 w12 ⟨rfl, ho⟩; replace HMB := hon HMB ho; replace HR := hon HR ho; replace HX := hon HX ho; replace HO := htr HO ho; clear ho; (first | (clear m4 m5 m6 x0 x1 xf) | skip); obtain ⟨-, -, -, -, m4, m5, m6, -⟩ := cells13 HMB.out; obtain ⟨x0, x1⟩ := cells2 HX.out; have xf := HX.out.frozen))
          clear HX HGN HT HMB
          (try clear m4 m5 m6 x0 x1 xf)
          rename World => wE
          (iterate 4 go_step)
          refine wpList_store_mid rfl _ _ _ rfl _ 0 #[.int .u32 0, .string ⟨#[]⟩, .int .u64 0, .string ⟨#[]⟩, .string ⟨#[]⟩, .string ⟨#[]⟩] rfl rfl (blk_there HR.out _ rfl) (by kernel_rfl) (by simp [Value.oneCell']) ?_
          replace HR := hide (show Blk (wE.setCells (w.heap.size + 1) 0 [.int .u32 0, .string ⟨#[]⟩, .int .u64 0, .string ⟨#[]⟩, .string ⟨#[]⟩, .string ⟨#[]⟩]) _ _ #[.int .u32 0, .string ⟨#[]⟩, .int .u64 0, .string ⟨#[]⟩, .string ⟨#[]⟩, .string ⟨#[]⟩] from blk_stored HR.out [.int .u32 0, .string ⟨#[]⟩, .int .u64 0, .string ⟨#[]⟩, .string ⟨#[]⟩, .string ⟨#[]⟩] rfl)
          replace HO := hide (only_stored HO.out (Nat.le_succ _) [.int .u32 0, .string ⟨#[]⟩, .int .u64 0, .string ⟨#[]⟩, .string ⟨#[]⟩, .string ⟨#[]⟩])
          generalize (wE.setCells (w.heap.size + 1) 0 [.int .u32 0, .string ⟨#[]⟩, .int .u64 0, .string ⟨#[]⟩, .string ⟨#[]⟩, .string ⟨#[]⟩]) = wz at *
          (repeat go_step)
          refine bodyPost_ret (results_cell_two rfl _ _ (w.heap.size + 1) 84 _ (0, 0) _ rfl HR.out Tryz.underlying84 rfl (by kernel_rfl)) rfl ?_
          exact Q5.out H1.out H2.out H3.out H4.out _ _ ⟨rfl, HO.out⟩
      · rw [hm] at KP2
        have H3 := hide hm
        clear hm
        go_upto_region 11 with (first
          | (go_at_call 89; (with_reducible refine (KP2.out _ _ rfl).mono ?_); rintro e2 w8 ⟨rfl, ho⟩; replace HMB := hon HMB ho; replace HR := hon HR ho; replace HX := hon HX ho; replace HO := htr HO ho; clear ho; (first | (clear m4 m5 m6 x0 x1 xf) | skip); obtain ⟨-, -, -, -, m4, m5, m6, -⟩ := cells13 HMB.out; obtain ⟨x0, x1⟩ := cells2 HX.out; have xf := HX.out.frozen))
        clear HX HGN HT HMB
        (try clear m4 m5 m6 x0 x1 xf)
        rename World => wE
        (iterate 4 go_step)
        refine wpList_store_mid rfl _ _ _ rfl _ 0 #[.int .u32 0, .string ⟨#[]⟩, .int .u64 0, .string ⟨#[]⟩, .string ⟨#[]⟩, .string ⟨#[]⟩] rfl rfl (blk_there HR.out _ rfl) (by kernel_rfl) (by simp [Value.oneCell']) ?_
        replace HR := hide (show Blk (wE.setCells (w.heap.size + 1) 0 [.int .u32 0, .string ⟨#[]⟩, .int .u64 0, .string ⟨#[]⟩, .string ⟨#[]⟩, .string ⟨#[]⟩]) _ _ #[.int .u32 0, .string ⟨#[]⟩, .int .u64 0, .string ⟨#[]⟩, .string ⟨#[]⟩, .string ⟨#[]⟩] from blk_stored HR.out [.int .u32 0, .string ⟨#[]⟩, .int .u64 0, .string ⟨#[]⟩, .string ⟨#[]⟩, .string ⟨#[]⟩] rfl)
        replace HO := hide (only_stored HO.out (Nat.le_succ _) [.int .u32 0, .string ⟨#[]⟩, .int .u64 0, .string ⟨#[]⟩, .string ⟨#[]⟩, .string ⟨#[]⟩])
        generalize (wE.setCells (w.heap.size + 1) 0 [.int .u32 0, .string ⟨#[]⟩, .int .u64 0, .string ⟨#[]⟩, .string ⟨#[]⟩, .string ⟨#[]⟩]) = wz at *
        (repeat go_step)
        refine bodyPost_ret (results_cell_two rfl _ _ (w.heap.size + 1) 84 _ (0, 0) _ rfl HR.out Tryz.underlying84 rfl (by kernel_rfl)) rfl ?_
        exact Q4.out H1.out H2.out H3.out _ _ ⟨rfl, HO.out⟩
    · have hob : (pc == 0) = false := by rw [beq_eq_false_iff_ne]; exact hm
      rw [hob] at KO1
      have H2 := hide hm
      clear hm hob
      go_upto_region 9 with (first
        | (go_at_call 100; (with_reducible refine (KO1.out _).mono ?_); rintro e2 w7 ⟨rfl, ho⟩; replace HMB := hon HMB ho; replace HR := hon HR ho; replace HX := hon HX ho; replace HO := htr HO ho; clear ho; (first | (clear m4 m5 m6 x0 x1 xf) | skip); obtain ⟨-, -, -, -, m4, m5, m6, -⟩ := cells13 HMB.out; obtain ⟨x0, x1⟩ := cells2 HX.out; have xf := HX.out.frozen))
      clear HX HGN HT HMB
      (try clear m4 m5 m6 x0 x1 xf)
      rename World => wE
      (iterate 4 go_step)
      refine wpList_store_mid rfl _ _ _ rfl _ 0 #[.int .u32 0, .string ⟨#[]⟩, .int .u64 0, .string ⟨#[]⟩, .string ⟨#[]⟩, .string ⟨#[]⟩] rfl rfl (blk_there HR.out _ rfl) (by kernel_rfl) (by simp [Value.oneCell']) ?_
      replace HR := hide (show Blk (wE.setCells (w.heap.size + 1) 0 [.int .u32 0, .string ⟨#[]⟩, .int .u64 0, .string ⟨#[]⟩, .string ⟨#[]⟩, .string ⟨#[]⟩]) _ _ #[.int .u32 0, .string ⟨#[]⟩, .int .u64 0, .string ⟨#[]⟩, .string ⟨#[]⟩, .string ⟨#[]⟩] from blk_stored HR.out [.int .u32 0, .string ⟨#[]⟩, .int .u64 0, .string ⟨#[]⟩, .string ⟨#[]⟩, .string ⟨#[]⟩] rfl)
      replace HO := hide (only_stored HO.out (Nat.le_succ _) [.int .u32 0, .string ⟨#[]⟩, .int .u64 0, .string ⟨#[]⟩, .string ⟨#[]⟩, .string ⟨#[]⟩])
      generalize (wE.setCells (w.heap.size + 1) 0 [.int .u32 0, .string ⟨#[]⟩, .int .u64 0, .string ⟨#[]⟩, .string ⟨#[]⟩, .string ⟨#[]⟩]) = wz at *
      (repeat go_step)
      refine bodyPost_ret (results_cell_two rfl _ _ (w.heap.size + 1) 84 _ (0, 0) _ rfl HR.out Tryz.underlying84 rfl (by kernel_rfl)) rfl ?_
      exact Q3.out H1.out H2.out _ _ ⟨rfl, HO.out⟩
  · rw [hm] at KM1
    have H1 := hide hm
    clear hm
    go_upto_region 6 with (first
      | (go_at_call 96; (with_reducible refine (KM1.out _ _ rfl).mono ?_); rintro e2 w6 ⟨rfl, ho⟩; replace HMB := hon HMB ho; replace HR := hon HR ho; replace HX := hon HX ho; replace HO := htr HO ho; clear ho; (first | (clear m4 m5 m6 x0 x1 xf) | skip); obtain ⟨-, -, -, -, m4, m5, m6, -⟩ := cells13 HMB.out; obtain ⟨x0, x1⟩ := cells2 HX.out; have xf := HX.out.frozen))
    clear HX HGN HT HMB
    (try clear m4 m5 m6 x0 x1 xf)
    rename World => wE
    (iterate 4 go_step)
    refine wpList_store_mid rfl _ _ _ rfl _ 0 #[.int .u32 0, .string ⟨#[]⟩, .int .u64 0, .string ⟨#[]⟩, .string ⟨#[]⟩, .string ⟨#[]⟩] rfl rfl (blk_there HR.out _ rfl) (by kernel_rfl) (by simp [Value.oneCell']) ?_
    replace HR := hide (show Blk (wE.setCells (w.heap.size + 1) 0 [.int .u32 0, .string ⟨#[]⟩, .int .u64 0, .string ⟨#[]⟩, .string ⟨#[]⟩, .string ⟨#[]⟩]) _ _ #[.int .u32 0, .string ⟨#[]⟩, .int .u64 0, .string ⟨#[]⟩, .string ⟨#[]⟩, .string ⟨#[]⟩] from blk_stored HR.out [.int .u32 0, .string ⟨#[]⟩, .int .u64 0, .string ⟨#[]⟩, .string ⟨#[]⟩, .string ⟨#[]⟩] rfl)
    replace HO := hide (only_stored HO.out (Nat.le_succ _) [.int .u32 0, .string ⟨#[]⟩, .int .u64 0, .string ⟨#[]⟩, .string ⟨#[]⟩, .string ⟨#[]⟩])
    generalize (wE.setCells (w.heap.size + 1) 0 [.int .u32 0, .string ⟨#[]⟩, .int .u64 0, .string ⟨#[]⟩, .string ⟨#[]⟩, .string ⟨#[]⟩]) = wz at *
    (repeat go_step)
    refine bodyPost_ret (results_cell_two rfl _ _ (w.heap.size + 1) 84 _ (0, 0) _ rfl HR.out Tryz.underlying84 rfl (by kernel_rfl)) rfl ?_
    exact Q2.out H1.out _ _ ⟨rfl, HO.out⟩
end
end Go.Proofs.YtfipdjlalfpbnaaGreatDoor

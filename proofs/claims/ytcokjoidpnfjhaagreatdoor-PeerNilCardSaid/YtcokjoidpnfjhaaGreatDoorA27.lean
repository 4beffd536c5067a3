/-
  Walks and plain words (texts No3). No condition beyond those that each theorem states.
-/
import Derived.Test.YtcokjoidpnfjhaaGreatDoorA23
namespace Go.Proofs.YtcokjoidpnfjhaaGreatDoor
section
open Go.RowKit Go.Deep

set_option maxRecDepth 100000 in
set_option maxHeartbeats 12800000 in
theorem Begin_long (w : World) (s e tt : ByteArray) (n sd : Nat) (hs : s.size ≤ maxLen) (he : e.size ≤ maxLen) (ht : tt.size ≤ maxLen) (hn : n < 18446744073709551616) (htab : Tab w) (hb1 : termsB [s, e] = true) (hb2 : pubsB [tt] = true) (ep cA hA uA kA cB ps sA hB uB kB cC nb sB hC : ByteArray) (e_ep : pubT e = ep) (e_cA : begC ep = cA) (e_hA : begH tt ep = hA) (e_uA : agreeT e tt = uA) (e_kA : kdfT 2 cA uA = kA) (e_cB : kdfT 1 cA uA = cB) (e_ps : pubT s = ps) (e_sA : sealN kA ps hA = sA) (e_hB : hashT hA sA = hB) (e_uB : agreeT s tt = uB) (e_kB : kdfT 2 cB uB = kB) (e_cC : kdfT 1 cB uB = cC) (e_nb : numT n = nb) (e_sB : sealN kB nb hB = sB) (e_hC : hashT hB sB = hC) (hm : madeB [ep, sA, sB, cC, hC] = false) : Calls Tryz.prog 58 #[.string s, .string e, .string tt, .int .u64 n, .int .u32 sd] w (BeginPost 5 #[.int .i64 0, .int .u32 0, .int .u32 0, .int .u64 0, .string ⟨#[]⟩, .string ⟨#[]⟩, .string ⟨#[]⟩, .string ⟨#[]⟩, .string ⟨#[]⟩, .string ⟨#[]⟩, .string ⟨#[]⟩, .string ⟨#[]⟩, .string ⟨#[]⟩] #[.int .u32 0, .string ⟨#[]⟩, .string ⟨#[]⟩, .string ⟨#[]⟩] w) := by
  have z_ep : ep.size ≤ maxLen := e_ep ▸ pubT_size _
  have z_cA : cA.size ≤ maxLen := e_cA ▸ kdfT_size 1 (by omega) _ _
  have z_hA : hA.size ≤ maxLen := e_hA ▸ hashT_size _ _
  have z_uA : uA.size ≤ maxLen := e_uA ▸ agreeT_size _ _
  have z_kA : kA.size ≤ maxLen := e_kA ▸ kdfT_size 2 (by omega) _ _
  have z_cB : cB.size ≤ maxLen := e_cB ▸ kdfT_size 1 (by omega) _ _
  have z_ps : ps.size ≤ maxLen := e_ps ▸ pubT_size _
  have z_sA : sA.size ≤ maxLen := e_sA ▸ sealN_size _ _ _
  have z_hB : hB.size ≤ maxLen := e_hB ▸ hashT_size _ _
  have z_uB : uB.size ≤ maxLen := e_uB ▸ agreeT_size _ _
  have z_kB : kB.size ≤ maxLen := e_kB ▸ kdfT_size 2 (by omega) _ _
  have z_cC : cC.size ≤ maxLen := e_cC ▸ kdfT_size 1 (by omega) _ _
  have z_nb : nb.size ≤ maxLen := e_nb ▸ make_size' _ _ _ _ hn
  have z_sB : sB.size ≤ maxLen := e_sB ▸ sealN_size _ _ _
  have z_hC : hC.size ≤ maxLen := e_hC ▸ hashT_size _ _
  have KT := hide (fun W G hG => terms_new2 W G hG s e hs he)
  have KP := hide (fun W G hG => pubs_new1 W G hG tt ht)
  have KE := hide (fun W h => public_any W e he h)
  have KB := hide (fun W h => begin_any W tt ep ht z_ep h)
  have KA1 := hide (fun W h => Agree_any W e tt he ht h)
  have KX1 := hide (fun W g hx h => mix_any W g cA hA uA hx z_cA z_uA h)
  have KS := hide (fun W h => public_any W s hs h)
  have KL1 := hide (fun W h => nseal_any W kA ps hA z_kA z_ps z_hA h)
  have KD1 := hide (fun W g hx h => add_any W g cB hA sA hx z_hA z_sA h)
  have KA2 := hide (fun W h => Agree_any W s tt hs ht h)
  have KX2 := hide (fun W g hx h => mix_any W g cB hB uB hx z_cB z_uB h)
  have KN := hide (fun W h => Make_any 3 (by decide) n hn (.slice none 0 0) (.slice none 0 0) [] [] (by simp) W (Rd.nil _ _) (Rd.nil _ _) h)
  have KL2 := hide (fun W h => nseal_any W kB nb hB z_kB z_nb z_hB h)
  have KD2 := hide (fun W g hx h => add_any W g cC hB sB hx z_hB z_sB h)
  have KM := hide (fun W G hG => made_new5 W G hG ep sA sB cC hC z_ep z_sA z_sB z_cC z_hC)
  rw [e_ep] at KE
  rw [e_cA] at KB
  rw [e_hA] at KB
  rw [e_uA] at KA1
  rw [e_kA] at KX1
  rw [e_cB] at KX1
  rw [e_ps] at KS
  rw [e_sA] at KL1
  rw [e_hB] at KD1
  rw [e_uB] at KA2
  rw [e_kB] at KX2
  rw [e_cC] at KX2
  rw [e_sB] at KL2
  rw [e_hC] at KD2
  rw [show makeV 3 n [] [] = nb from e_nb] at KN
  unfold RetB at KT KP KM
  unfold MakePost at KE KA1 KS KL1 KA2 KN KL2
  unfold StatePost at KB
  unfold StIs at KX1 KX2 KD1 KD2
  rw [hb1] at KT
  rw [hb2] at KP
  rw [hm] at KM
  clear hm
  clear hs he ht hn hb1 hb2 z_ep e_ep z_cA e_cA z_hA e_hA z_uA e_uA z_kA e_kA z_cB e_cB z_ps e_ps z_sA e_sA z_hB e_hB z_uB e_uB z_kB e_kB z_cC e_cC z_nb e_nb z_sB e_sB z_hC e_hC
  have HR1 := hide ((Blk.new w 29 #[.int .i64 0, .int .u32 0, .int .u32 0, .int .u64 0, .string ⟨#[]⟩, .string ⟨#[]⟩, .string ⟨#[]⟩, .string ⟨#[]⟩, .string ⟨#[]⟩, .string ⟨#[]⟩, .string ⟨#[]⟩, .string ⟨#[]⟩, .string ⟨#[]⟩]).alloc (.cells #[.int .u32 0, .string ⟨#[]⟩, .string ⟨#[]⟩, .string ⟨#[]⟩] 112))
  have HR2 := hide (Blk.new (w.alloc (.cells #[.int .i64 0, .int .u32 0, .int .u32 0, .int .u64 0, .string ⟨#[]⟩, .string ⟨#[]⟩, .string ⟨#[]⟩, .string ⟨#[]⟩, .string ⟨#[]⟩, .string ⟨#[]⟩, .string ⟨#[]⟩, .string ⟨#[]⟩, .string ⟨#[]⟩] 29)) 112 #[.int .u32 0, .string ⟨#[]⟩, .string ⟨#[]⟩, .string ⟨#[]⟩])
  rw [World.size_alloc] at HR2
  have HO := hide (((Only.refl [] w).alloc (.cells #[.int .i64 0, .int .u32 0, .int .u32 0, .int .u64 0, .string ⟨#[]⟩, .string ⟨#[]⟩, .string ⟨#[]⟩, .string ⟨#[]⟩, .string ⟨#[]⟩, .string ⟨#[]⟩, .string ⟨#[]⟩, .string ⟨#[]⟩, .string ⟨#[]⟩] 29)).alloc (.cells #[.int .u32 0, .string ⟨#[]⟩, .string ⟨#[]⟩, .string ⟨#[]⟩] 112))
  have HT := hide htab
  clear htab
  go_enter Tryz.func58, Tryz.ntmps58
  go_upto_region 1 with fail
  generalize ((w.alloc (.cells #[.int .i64 0, .int .u32 0, .int .u32 0, .int .u64 0, .string ⟨#[]⟩, .string ⟨#[]⟩, .string ⟨#[]⟩, .string ⟨#[]⟩, .string ⟨#[]⟩, .string ⟨#[]⟩, .string ⟨#[]⟩, .string ⟨#[]⟩, .string ⟨#[]⟩] 29)).alloc (.cells #[.int .u32 0, .string ⟨#[]⟩, .string ⟨#[]⟩, .string ⟨#[]⟩] 112)) = v0 at *
  obtain ⟨q0, q1, q2, q3, q4, q5, q6, q7, q8, q9, q10, q11, q12⟩ := cells13 HR1.out; have qf := HR1.out.frozen; obtain ⟨z0, z1, z2, z3⟩ := cells4 HR2.out; have zf := HR2.out.frozen
  go_upto_region 5 with (first
    | (go_at_call 123; refine (KT.out _ _ rfl).mono ?_; rintro e wt ⟨rfl, ho⟩; replace HR1 := hon HR1 ho; replace HR2 := hon HR2 ho; replace HO := htr HO ho; clear ho; (first | (clear q0 q1 q2 q3 q4 q5 q6 q7 q8 q9 q10 q11 q12 qf z0 z1 z2 z3 zf) | skip); obtain ⟨q0, q1, q2, q3, q4, q5, q6, q7, q8, q9, q10, q11, q12⟩ := cells13 HR1.out; have qf := HR1.out.frozen; obtain ⟨z0, z1, z2, z3⟩ := cells4 HR2.out; have zf := HR2.out.frozen)
    | (go_at_call 124; refine (KP.out _ _ rfl).mono ?_; rintro e wp ⟨rfl, ho⟩; replace HR1 := hon HR1 ho; replace HR2 := hon HR2 ho; replace HO := htr HO ho; clear ho; (first | (clear q0 q1 q2 q3 q4 q5 q6 q7 q8 q9 q10 q11 q12 qf z0 z1 z2 z3 zf) | skip); obtain ⟨q0, q1, q2, q3, q4, q5, q6, q7, q8, q9, q10, q11, q12⟩ := cells13 HR1.out; have qf := HR1.out.frozen; obtain ⟨z0, z1, z2, z3⟩ := cells4 HR2.out; have zf := HR2.out.frozen)
    | (go_at_call 125; (with_reducible refine (KE.out _ (HT.out.only HO.out (by simp))).mono ?_); rintro e2 w1 ⟨rfl, ho⟩; replace HR1 := hon HR1 ho; replace HR2 := hon HR2 ho; replace HO := htr HO ho; clear ho; (first | (clear q0 q1 q2 q3 q4 q5 q6 q7 q8 q9 q10 q11 q12 qf z0 z1 z2 z3 zf) | skip); obtain ⟨q0, q1, q2, q3, q4, q5, q6, q7, q8, q9, q10, q11, q12⟩ := cells13 HR1.out; have qf := HR1.out.frozen; obtain ⟨z0, z1, z2, z3⟩ := cells4 HR2.out; have zf := HR2.out.frozen)
    | (go_at_call 126; (with_reducible refine (KB.out _ (HT.out.only HO.out (by simp))).mono ?_); rintro e2 w2 ⟨rfl, ho⟩; replace HR1 := hon HR1 ho; replace HR2 := hon HR2 ho; replace HO := htr HO ho; clear ho; (first | (clear q0 q1 q2 q3 q4 q5 q6 q7 q8 q9 q10 q11 q12 qf z0 z1 z2 z3 zf) | skip); obtain ⟨q0, q1, q2, q3, q4, q5, q6, q7, q8, q9, q10, q11, q12⟩ := cells13 HR1.out; have qf := HR1.out.frozen; obtain ⟨z0, z1, z2, z3⟩ := cells4 HR2.out; have zf := HR2.out.frozen))
  have HX := hide (Blk.new w2 207 #[.string cA, .string hA])
  have HGN := hide (show w.heap.size + 1 < w2.heap.size from by have := HR2.out.lt; exact this)
  replace HR1 := hide (HR1.out.alloc (.cells #[.string cA, .string hA] 207))
  replace HR2 := hide (HR2.out.alloc (.cells #[.string cA, .string hA] 207))
  replace HO := hide (HO.out.alloc (.cells #[.string cA, .string hA] 207))
  generalize (w2.alloc (.cells #[.string cA, .string hA] 207)) = w3 at *
  obtain ⟨g, hg⟩ : ∃ g, g = w2.heap.size := ⟨_, rfl⟩
  rw [← hg] at HX HGN ⊢
  clear hg
  (clear q0 q1 q2 q3 q4 q5 q6 q7 q8 q9 q10 q11 q12 qf z0 z1 z2 z3 zf)
  obtain ⟨q0, q1, q2, q3, q4, q5, q6, q7, q8, q9, q10, q11, q12⟩ := cells13 HR1.out; have qf := HR1.out.frozen; obtain ⟨z0, z1, z2, z3⟩ := cells4 HR2.out; have zf := HR2.out.frozen
  have x0 := HX.out.cell 0; have x1 := HX.out.cell 1; simp at x0 x1; have xf := HX.out.frozen
  go_upto_region 6 with (first
    | (go_at_call 128; (with_reducible refine (KA1.out _ (HT.out.only HO.out (by simp))).mono ?_); rintro e2 w4 ⟨rfl, ho⟩; replace HR1 := hon HR1 ho; replace HR2 := hon HR2 ho; replace HX := hon HX ho; replace HO := htr HO ho; clear ho; (first | (clear q0 q1 q2 q3 q4 q5 q6 q7 q8 q9 q10 q11 q12 qf z0 z1 z2 z3 zf) | skip); obtain ⟨q0, q1, q2, q3, q4, q5, q6, q7, q8, q9, q10, q11, q12⟩ := cells13 HR1.out; have qf := HR1.out.frozen; obtain ⟨z0, z1, z2, z3⟩ := cells4 HR2.out; have zf := HR2.out.frozen; (first | (clear x0 x1 xf) | skip); have x0 := HX.out.cell 0; have x1 := HX.out.cell 1; simp at x0 x1; have xf := HX.out.frozen)
    | (go_at_call 127; (with_reducible refine (KX1.out _ g HX.out (HT.out.only HO.out (by simp))).mono ?_); rintro e2 w5 ⟨rfl, hx, ho⟩; replace HR1 := hide (HR1.out.only ho (by have := HGN.out; simp; omega)); replace HR2 := hide (HR2.out.only ho (by have := HGN.out; simp; omega)); replace HX := hide hx; clear hx; replace HO := hide (((HO.out.mono (S' := [g]) (by simp)).trans ho).mono (S' := []) (by intro x hx; right; simp at hx; have := HGN.out; omega)); clear ho; (first | (clear q0 q1 q2 q3 q4 q5 q6 q7 q8 q9 q10 q11 q12 qf z0 z1 z2 z3 zf) | skip); obtain ⟨q0, q1, q2, q3, q4, q5, q6, q7, q8, q9, q10, q11, q12⟩ := cells13 HR1.out; have qf := HR1.out.frozen; obtain ⟨z0, z1, z2, z3⟩ := cells4 HR2.out; have zf := HR2.out.frozen; (first | (clear x0 x1 xf) | skip); have x0 := HX.out.cell 0; have x1 := HX.out.cell 1; simp at x0 x1; have xf := HX.out.frozen))
  clear q0 q1 q2 q3 q4 q5 q6 q7 q8 q9 q10 q11 q12 qf z0 z1 z2 z3 zf x0 x1 xf
  refine wp_region_held_drew (S := fun W => Only [] w5 W) (by kernel_rfl) (by exact (Only.refl [] w5).drew) (fun hHeld => ?_); generalize w5.drew = wd6 at *
  refine tk 0 ?_; refine tk 1 ?_; refine tk 3 ?_; refine tk 4 ?_ (hy := by (intro w hSw; (try dsimp only at hSw); have HXw := HX.out.only hSw (by simp); obtain ⟨x0, x1⟩ := cells2 HXw; clear HXw; go_simp; try with_reducible rfl))
  refine wpAnyH_ready (rs := [2]) (by kernel_rfl) (by simp) ?_; refine (AllReadyH.cons rfl (fun K hK => ?_) AllReadyH.nil); go_simp
  (go_at_call 125; refine (KS.out _ (HT.out.only (HO.out.trans hHeld) (by simp))).mono ?_; rintro e2 w2 ⟨rfl, ho⟩)
  refine hK.out _ _ (by first | exact hHeld.trans ho | exact hHeld.trans (ho.mono (by simp))) (fun hN => ?_); clear hK K ho hHeld; have hHeld := hN; clear hN; (try simp only [zsa, zsb, zsc, Act.put, zsd, zse, zsf])
  refine wpAnyH_ready (rs := [5]) (by kernel_rfl) (by simp) ?_; refine (AllReadyH.cons rfl (fun K hK => ?_) AllReadyH.nil); go_simp
  (go_at_call 129; refine (KL1.out _ (HT.out.only (HO.out.trans hHeld) (by simp))).mono ?_; rintro e2 w5 ⟨rfl, ho⟩)
  refine hK.out _ _ (by first | exact hHeld.trans ho | exact hHeld.trans (ho.mono (by simp))) (fun hN => ?_); clear hK K ho hHeld; have hHeld := hN; clear hN; (try simp only [zsa, zsb, zsc, Act.put, zsd, zse, zsf])
  refine tk 6 ?_; refine wpAnyH_done (by kernel_rfl) ?_ _
  skip
  replace HR1 := hon HR1 hHeld
  replace HR2 := hon HR2 hHeld
  replace HX := hon HX hHeld
  replace HO := htr HO hHeld
  clear hHeld
  obtain ⟨q0, q1, q2, q3, q4, q5, q6, q7, q8, q9, q10, q11, q12⟩ := cells13 HR1.out; have qf := HR1.out.frozen; obtain ⟨z0, z1, z2, z3⟩ := cells4 HR2.out; have zf := HR2.out.frozen
  have x0 := HX.out.cell 0; have x1 := HX.out.cell 1; simp at x0 x1; have xf := HX.out.frozen
  go_upto_region 9 with (first
    | (go_at_call 130; (with_reducible refine (KD1.out _ g HX.out (HT.out.only HO.out (by simp))).mono ?_); rintro e2 w7 ⟨rfl, hx, ho⟩; replace HR1 := hide (HR1.out.only ho (by have := HGN.out; simp; omega)); replace HR2 := hide (HR2.out.only ho (by have := HGN.out; simp; omega)); replace HX := hide hx; clear hx; replace HO := hide (((HO.out.mono (S' := [g]) (by simp)).trans ho).mono (S' := []) (by intro x hx; right; simp at hx; have := HGN.out; omega)); clear ho; (first | (clear q0 q1 q2 q3 q4 q5 q6 q7 q8 q9 q10 q11 q12 qf z0 z1 z2 z3 zf) | skip); obtain ⟨q0, q1, q2, q3, q4, q5, q6, q7, q8, q9, q10, q11, q12⟩ := cells13 HR1.out; have qf := HR1.out.frozen; obtain ⟨z0, z1, z2, z3⟩ := cells4 HR2.out; have zf := HR2.out.frozen; (first | (clear x0 x1 xf) | skip); have x0 := HX.out.cell 0; have x1 := HX.out.cell 1; simp at x0 x1; have xf := HX.out.frozen)
    | (go_at_call 128; (with_reducible refine (KA2.out _ (HT.out.only HO.out (by simp))).mono ?_); rintro e2 w8 ⟨rfl, ho⟩; replace HR1 := hon HR1 ho; replace HR2 := hon HR2 ho; replace HX := hon HX ho; replace HO := htr HO ho; clear ho; (first | (clear q0 q1 q2 q3 q4 q5 q6 q7 q8 q9 q10 q11 q12 qf z0 z1 z2 z3 zf) | skip); obtain ⟨q0, q1, q2, q3, q4, q5, q6, q7, q8, q9, q10, q11, q12⟩ := cells13 HR1.out; have qf := HR1.out.frozen; obtain ⟨z0, z1, z2, z3⟩ := cells4 HR2.out; have zf := HR2.out.frozen; (first | (clear x0 x1 xf) | skip); have x0 := HX.out.cell 0; have x1 := HX.out.cell 1; simp at x0 x1; have xf := HX.out.frozen)
    | (go_at_call 127; (with_reducible refine (KX2.out _ g HX.out (HT.out.only HO.out (by simp))).mono ?_); rintro e2 w9 ⟨rfl, hx, ho⟩; replace HR1 := hide (HR1.out.only ho (by have := HGN.out; simp; omega)); replace HR2 := hide (HR2.out.only ho (by have := HGN.out; simp; omega)); replace HX := hide hx; clear hx; replace HO := hide (((HO.out.mono (S' := [g]) (by simp)).trans ho).mono (S' := []) (by intro x hx; right; simp at hx; have := HGN.out; omega)); clear ho; (first | (clear q0 q1 q2 q3 q4 q5 q6 q7 q8 q9 q10 q11 q12 qf z0 z1 z2 z3 zf) | skip); obtain ⟨q0, q1, q2, q3, q4, q5, q6, q7, q8, q9, q10, q11, q12⟩ := cells13 HR1.out; have qf := HR1.out.frozen; obtain ⟨z0, z1, z2, z3⟩ := cells4 HR2.out; have zf := HR2.out.frozen; (first | (clear x0 x1 xf) | skip); have x0 := HX.out.cell 0; have x1 := HX.out.cell 1; simp at x0 x1; have xf := HX.out.frozen))
  clear q0 q1 q2 q3 q4 q5 q6 q7 q8 q9 q10 q11 q12 qf z0 z1 z2 z3 zf x0 x1 xf
  refine wp_region_held_drew (S := fun W => Only [] w9 W) (by kernel_rfl) (by exact (Only.refl [] w9).drew) (fun hHeld => ?_); generalize w9.drew = wd9 at *
  refine tk 0 ?_; refine tk 1 ?_; refine tk 3 ?_; refine tk 4 ?_ (hy := by (intro w hSw; (try dsimp only at hSw); have HXw := HX.out.only hSw (by simp); obtain ⟨x0, x1⟩ := cells2 HXw; clear HXw; go_simp; try with_reducible rfl))
  refine wpAnyH_ready (rs := [2]) (by kernel_rfl) (by simp) ?_; refine (AllReadyH.cons rfl (fun K hK => ?_) AllReadyH.nil); go_simp
  (go_at_call 122; refine (KN.out _ (HT.out.only (HO.out.trans hHeld) (by simp))).mono ?_; rintro e2 w2 ⟨rfl, ho⟩)
  refine hK.out _ _ (by first | exact hHeld.trans ho | exact hHeld.trans (ho.mono (by simp))) (fun hN => ?_); clear hK K ho hHeld; have hHeld := hN; clear hN; (try simp only [zsa, zsb, zsc, Act.put, zsd, zse, zsf])
  refine wpAnyH_ready (rs := [5]) (by kernel_rfl) (by simp) ?_; refine (AllReadyH.cons rfl (fun K hK => ?_) AllReadyH.nil); go_simp
  (go_at_call 129; refine (KL2.out _ (HT.out.only (HO.out.trans hHeld) (by simp))).mono ?_; rintro e2 w5 ⟨rfl, ho⟩)
  refine hK.out _ _ (by first | exact hHeld.trans ho | exact hHeld.trans (ho.mono (by simp))) (fun hN => ?_); clear hK K ho hHeld; have hHeld := hN; clear hN; (try simp only [zsa, zsb, zsc, Act.put, zsd, zse, zsf])
  refine tk 6 ?_; refine wpAnyH_done (by kernel_rfl) ?_ _
  replace HR1 := hon HR1 hHeld
  replace HR2 := hon HR2 hHeld
  replace HX := hon HX hHeld
  replace HO := htr HO hHeld
  clear hHeld
  obtain ⟨q0, q1, q2, q3, q4, q5, q6, q7, q8, q9, q10, q11, q12⟩ := cells13 HR1.out; have qf := HR1.out.frozen; obtain ⟨z0, z1, z2, z3⟩ := cells4 HR2.out; have zf := HR2.out.frozen
  have x0 := HX.out.cell 0; have x1 := HX.out.cell 1; simp at x0 x1; have xf := HX.out.frozen
  go_upto_region 11 with (first
    | (go_at_call 130; (with_reducible refine (KD2.out _ g HX.out (HT.out.only HO.out (by simp))).mono ?_); rintro e2 w10 ⟨rfl, hx, ho⟩; replace HR1 := hide (HR1.out.only ho (by have := HGN.out; simp; omega)); replace HR2 := hide (HR2.out.only ho (by have := HGN.out; simp; omega)); replace HX := hide hx; clear hx; replace HO := hide (((HO.out.mono (S' := [g]) (by simp)).trans ho).mono (S' := []) (by intro x hx; right; simp at hx; have := HGN.out; omega)); clear ho; (first | (clear q0 q1 q2 q3 q4 q5 q6 q7 q8 q9 q10 q11 q12 qf z0 z1 z2 z3 zf) | skip); obtain ⟨q0, q1, q2, q3, q4, q5, q6, q7, q8, q9, q10, q11, q12⟩ := cells13 HR1.out; have qf := HR1.out.frozen; obtain ⟨z0, z1, z2, z3⟩ := cells4 HR2.out; have zf := HR2.out.frozen; (first | (clear x0 x1 xf) | skip); have x0 := HX.out.cell 0; have x1 := HX.out.cell 1; simp at x0 x1; have xf := HX.out.frozen))
  go_upto_region 12 with (first
    | (go_at_call 131; (with_reducible refine (KM.out _ _ rfl).mono ?_); rintro e2 wm ⟨rfl, ho⟩; replace HR1 := hon HR1 ho; replace HR2 := hon HR2 ho; replace HX := hon HX ho; replace HO := htr HO ho; clear ho; (first | (clear q0 q1 q2 q3 q4 q5 q6 q7 q8 q9 q10 q11 q12 qf z0 z1 z2 z3 zf) | skip); obtain ⟨q0, q1, q2, q3, q4, q5, q6, q7, q8, q9, q10, q11, q12⟩ := cells13 HR1.out; have qf := HR1.out.frozen; obtain ⟨z0, z1, z2, z3⟩ := cells4 HR2.out; have zf := HR2.out.frozen; (first | (clear x0 x1 xf) | skip); have x0 := HX.out.cell 0; have x1 := HX.out.cell 1; simp at x0 x1; have xf := HX.out.frozen))
  clear x0 x1 xf HX KM KD2 KT KP KE KB KA1 KX1 KS KL1 KD1 KA2 KX2 KN KL2 HGN HT
  clear q0 q1 q2 q3 q4 q5 q6 q7 q8 q9 q10 q11 q12 qf z0 z1 z2 z3 zf
  (iterate 7 go_step)
  refine wpList_store_mid rfl _ _ _ rfl _ 0 #[.int .i64 0, .int .u32 0, .int .u32 0, .int .u64 0, .string ⟨#[]⟩, .string ⟨#[]⟩, .string ⟨#[]⟩, .string ⟨#[]⟩, .string ⟨#[]⟩, .string ⟨#[]⟩, .string ⟨#[]⟩, .string ⟨#[]⟩, .string ⟨#[]⟩] rfl rfl (blk_there HR1.out _ rfl) (by kernel_rfl) (by simp [Value.oneCell']) ?_
  replace HR1 := hide (show Blk (wm.setCells w.heap.size 0 [.int .i64 0, .int .u32 0, .int .u32 0, .int .u64 0, .string ⟨#[]⟩, .string ⟨#[]⟩, .string ⟨#[]⟩, .string ⟨#[]⟩, .string ⟨#[]⟩, .string ⟨#[]⟩, .string ⟨#[]⟩, .string ⟨#[]⟩, .string ⟨#[]⟩]) _ _ #[.int .i64 0, .int .u32 0, .int .u32 0, .int .u64 0, .string ⟨#[]⟩, .string ⟨#[]⟩, .string ⟨#[]⟩, .string ⟨#[]⟩, .string ⟨#[]⟩, .string ⟨#[]⟩, .string ⟨#[]⟩, .string ⟨#[]⟩, .string ⟨#[]⟩] from blk_stored HR1.out [.int .i64 0, .int .u32 0, .int .u32 0, .int .u64 0, .string ⟨#[]⟩, .string ⟨#[]⟩, .string ⟨#[]⟩, .string ⟨#[]⟩, .string ⟨#[]⟩, .string ⟨#[]⟩, .string ⟨#[]⟩, .string ⟨#[]⟩, .string ⟨#[]⟩] rfl)
  replace HR2 := hide (blk_far HR2.out (Nat.ne_of_lt (Nat.lt_succ_self _)) [.int .i64 0, .int .u32 0, .int .u32 0, .int .u64 0, .string ⟨#[]⟩, .string ⟨#[]⟩, .string ⟨#[]⟩, .string ⟨#[]⟩, .string ⟨#[]⟩, .string ⟨#[]⟩, .string ⟨#[]⟩, .string ⟨#[]⟩, .string ⟨#[]⟩])
  replace HO := hide (only_stored HO.out (Nat.le_refl _) [.int .i64 0, .int .u32 0, .int .u32 0, .int .u64 0, .string ⟨#[]⟩, .string ⟨#[]⟩, .string ⟨#[]⟩, .string ⟨#[]⟩, .string ⟨#[]⟩, .string ⟨#[]⟩, .string ⟨#[]⟩, .string ⟨#[]⟩, .string ⟨#[]⟩])
  generalize (wm.setCells w.heap.size 0 [.int .i64 0, .int .u32 0, .int .u32 0, .int .u64 0, .string ⟨#[]⟩, .string ⟨#[]⟩, .string ⟨#[]⟩, .string ⟨#[]⟩, .string ⟨#[]⟩, .string ⟨#[]⟩, .string ⟨#[]⟩, .string ⟨#[]⟩, .string ⟨#[]⟩]) = wy at *
  refine wpList_store_mid rfl _ _ _ rfl _ 0 #[.int .u32 0, .string ⟨#[]⟩, .string ⟨#[]⟩, .string ⟨#[]⟩] rfl rfl (blk_there HR2.out _ rfl) (by kernel_rfl) (by simp [Value.oneCell']) ?_
  replace HR2 := hide (show Blk (wy.setCells (w.heap.size + 1) 0 [.int .u32 0, .string ⟨#[]⟩, .string ⟨#[]⟩, .string ⟨#[]⟩]) _ _ #[.int .u32 0, .string ⟨#[]⟩, .string ⟨#[]⟩, .string ⟨#[]⟩] from blk_stored HR2.out [.int .u32 0, .string ⟨#[]⟩, .string ⟨#[]⟩, .string ⟨#[]⟩] rfl)
  replace HR1 := hide (blk_far HR1.out (Nat.ne_of_gt (Nat.lt_succ_self _)) [.int .u32 0, .string ⟨#[]⟩, .string ⟨#[]⟩, .string ⟨#[]⟩])
  replace HO := hide (only_stored HO.out (Nat.le_succ _) [.int .u32 0, .string ⟨#[]⟩, .string ⟨#[]⟩, .string ⟨#[]⟩])
  generalize (wy.setCells (w.heap.size + 1) 0 [.int .u32 0, .string ⟨#[]⟩, .string ⟨#[]⟩, .string ⟨#[]⟩]) = wz at *
  (iterate 8 go_step)
  refine bodyPost_ret (results_two_cells rfl _ _ w.heap.size (w.heap.size + 1) 29 112 _ _ (0, 0) (0, 0) _ _ rfl rfl HR1.out HR2.out Tryz.underlying29 rfl (by kernel_rfl) Tryz.underlying112 rfl (by kernel_rfl)) rfl ?_
  exact ⟨rfl, HO.out⟩
end
end Go.Proofs.YtcokjoidpnfjhaaGreatDoor

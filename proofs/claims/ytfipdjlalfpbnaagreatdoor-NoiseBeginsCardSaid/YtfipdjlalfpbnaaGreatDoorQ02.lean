/-
  Walks and plain words (texts No7). No condition beyond those that each theorem states.
-/
import Derived.Test.YtfipdjlalfpbnaaGreatDoorP27
import Derived.Test.YtfipdjlalfpbnaaGreatDoorQ01
namespace Go.Proofs.YtfipdjlalfpbnaaGreatDoor
section
open Go.RowKit Go.Deep

theorem results_cells2 {P : Program} {fn : Func} {p q : Tmp} {ty ty2 : TypeId} (h : fn.results = #[.cell p ty, .cell q ty2]) (tmps : Array Value) (w : World) (g g2 : Nat) (t t2 : TypeId) (cs cs2 : Array Value) (fr fr2 : Nat × Nat) (d d2 : TypeDesc)
    (hp : tmps.getD p undef = .pointer (some ⟨g, 0, none⟩)) (hq : tmps.getD q undef = .pointer (some ⟨g2, 0, none⟩)) (hg : w.heap[g]? = some (.cells cs t fr)) (hg2 : w.heap[g2]? = some (.cells cs2 t2 fr2))
    (hu : P.underlying ty = some d) (hd : (match d with | .struct _ | .array _ _ => true | _ => false) = true) (hi : (P.info? ty).map (·.size) = some cs.size)
    (hu2 : P.underlying ty2 = some d2) (hd2 : (match d2 with | .struct _ | .array _ _ => true | _ => false) = true) (hi2 : (P.info? ty2).map (·.size) = some cs2.size) :
    (results fn tmps).run P w = .ok (.tuple #[.agg cs, .agg cs2]) w := by
  have hp' : tmps[p]?.getD undef = .pointer (some ⟨g, 0, none⟩) := by simpa using hp
  have hq' : tmps[q]?.getD undef = .pointer (some ⟨g2, 0, none⟩) := by simpa using hq
  simp [results, h, hp', hq', asAddr, run_loadVar_row w g t ty cs fr d hg hu hd hi, run_loadVar_row w g2 t2 ty2 cs2 fr2 d2 hg2 hu2 hd2 hi2]
set_option maxRecDepth 100000 in
set_option maxHeartbeats 12800000 in
theorem BeginR_in (w : World) (s e tt : ByteArray) (n sd : Nat) (hs : s.size ≤ maxLen) (he : e.size ≤ maxLen) (ht : tt.size ≤ maxLen) (hn : n < 18446744073709551616) (ep cA hA uA kA cB ps sA hB uB kB cC nb sB hC : ByteArray) (e_ep : pubT e = ep) (e_cA : begC ep = cA) (e_hA : begH tt ep = hA) (e_uA : agreeT e tt = uA) (e_kA : kdfT 2 cA uA = kA) (e_cB : kdfT 1 cA uA = cB) (e_ps : pubT s = ps) (e_sA : sealN kA ps hA = sA) (e_hB : hashT hA sA = hB) (e_uB : agreeT s tt = uB) (e_kB : kdfT 2 cB uB = kB) (e_cC : kdfT 1 cB uB = cC) (e_nb : numT n = nb) (e_sB : sealN kB nb hB = sB) (e_hC : hashT hB sB = hC) : Calls Tryz.prog 40 #[.string s, .string e, .string tt, .int .u64 n, .int .u32 sd] w fun e' w' => e' = .returned (.tuple #[.agg #[.int .i64 1, .int .u32 (sd : Nat), .int .u32 0, .int .u64 0, .string ep, .string sA, .string sB, .string ⟨#[]⟩, .string ⟨#[]⟩, .string ⟨#[]⟩, .string ⟨#[]⟩, .string ⟨#[48]⟩, .string ⟨#[48]⟩], .agg #[.string cC, .string hC]]) ∧ Only [] w w' := by
  have z_ep : ep.size ≤ maxLen := e_ep ▸ pubT_size _
  have z_cA : cA.size ≤ maxLen := e_cA ▸ kdfT_size 1 (by omega) _ _
  have z_hA : hA.size ≤ maxLen := e_hA ▸ hashT_size _ _
  have z_uA : uA.size ≤ maxLen := e_uA ▸ agreeT_size _ _
  have z_kA : kA.size ≤ maxLen := e_kA ▸ kdfT_size 2 (by omega) _ _
  have z_cB : cB.size ≤ maxLen := e_cB ▸ kdfT_size 1 (by omega) _ _
  have z_ps : ps.size ≤ maxLen := e_ps ▸ pubT_size _
  have z_sA : sA.size ≤ maxLen := e_sA ▸ sealN_size _ _ _
  have z_hB : hB.size ≤ maxLen := e_hB ▸ hashT_size _ _
  have z_uB : uB.size ≤ maxLen := e_uB ▸ agreeT_size _ _
  have z_kB : kB.size ≤ maxLen := e_kB ▸ kdfT_size 2 (by omega) _ _
  have z_cC : cC.size ≤ maxLen := e_cC ▸ kdfT_size 1 (by omega) _ _
  have z_nb : nb.size ≤ maxLen := e_nb ▸ make_size' _ _ _ _ hn
  have z_sB : sB.size ≤ maxLen := e_sB ▸ sealN_size _ _ _
  have z_hC : hC.size ≤ maxLen := e_hC ▸ hashT_size _ _
  have KE := hide (fun W => PubR_any W e he)
  have KB := hide (fun W => FirstR_any W tt ep ht z_ep)
  have KA1 := hide (fun W => AgreeR_any W e tt he ht)
  have KS := hide (fun W => PubR_any W s hs)
  have KL1 := hide (fun W => SealsR_any W cA hA uA ps z_cA z_hA z_uA z_ps)
  have KA2 := hide (fun W => AgreeR_any W s tt hs ht)
  have KN := hide (fun W => NumberR_any W n hn)
  have KL2 := hide (fun W => SealsR_any W cB hB uB nb z_cB z_hB z_uB z_nb)
  rw [show makeV 5 0 [] [e] = ep from e_ep] at KE
  rw [show makeV 5 0 [] [s] = ps from e_ps] at KS
  rw [e_cA, e_hA] at KB
  rw [e_uA] at KA1
  rw [e_uB] at KA2
  rw [e_nb] at KN
  simp only [e_kA, e_sA, e_cB, e_hB] at KL1
  simp only [e_kB, e_sB, e_cC, e_hC] at KL2
  unfold MakePost at KE KA1 KS KA2 KN
  unfold StatePost at KB
  clear hs he ht hn z_ep e_ep z_cA e_cA z_hA e_hA z_uA e_uA z_kA e_kA z_cB e_cB z_ps e_ps z_sA e_sA z_hB e_hB z_uB e_uB z_kB e_kB z_cC e_cC z_nb e_nb z_sB e_sB z_hC e_hC
  have HR1 := hide ((Blk.new w 25 #[.int .i64 0, .int .u32 0, .int .u32 0, .int .u64 0, .string ⟨#[]⟩, .string ⟨#[]⟩, .string ⟨#[]⟩, .string ⟨#[]⟩, .string ⟨#[]⟩, .string ⟨#[]⟩, .string ⟨#[]⟩, .string ⟨#[]⟩, .string ⟨#[]⟩]).alloc (.cells #[.string ⟨#[]⟩, .string ⟨#[]⟩] 80))
  have HR2 := hide (Blk.new (w.alloc (.cells #[.int .i64 0, .int .u32 0, .int .u32 0, .int .u64 0, .string ⟨#[]⟩, .string ⟨#[]⟩, .string ⟨#[]⟩, .string ⟨#[]⟩, .string ⟨#[]⟩, .string ⟨#[]⟩, .string ⟨#[]⟩, .string ⟨#[]⟩, .string ⟨#[]⟩] 25)) 80 #[.string ⟨#[]⟩, .string ⟨#[]⟩])
  rw [World.size_alloc] at HR2
  have HO := hide (((Only.refl [] w).alloc (.cells #[.int .i64 0, .int .u32 0, .int .u32 0, .int .u64 0, .string ⟨#[]⟩, .string ⟨#[]⟩, .string ⟨#[]⟩, .string ⟨#[]⟩, .string ⟨#[]⟩, .string ⟨#[]⟩, .string ⟨#[]⟩, .string ⟨#[]⟩, .string ⟨#[]⟩] 25)).alloc (.cells #[.string ⟨#[]⟩, .string ⟨#[]⟩] 80))
  go_enter Tryz.func40, Tryz.ntmps40
  go_upto_region 1 with fail
  generalize ((w.alloc (.cells #[.int .i64 0, .int .u32 0, .int .u32 0, .int .u64 0, .string ⟨#[]⟩, .string ⟨#[]⟩, .string ⟨#[]⟩, .string ⟨#[]⟩, .string ⟨#[]⟩, .string ⟨#[]⟩, .string ⟨#[]⟩, .string ⟨#[]⟩, .string ⟨#[]⟩] 25)).alloc (.cells #[.string ⟨#[]⟩, .string ⟨#[]⟩] 80)) = v0 at *
  go_upto_region 3 with (first
    | (go_at_call 42; (with_reducible refine (KE.out _).mono ?_); rintro e2 w1 ⟨rfl, ho⟩; replace HR1 := hon HR1 ho; replace HR2 := hon HR2 ho; replace HO := htr HO ho; clear ho)
    | (go_at_call 98; (with_reducible refine (KB.out _).mono ?_); rintro e2 w2 ⟨rfl, ho⟩; replace HR1 := hon HR1 ho; replace HR2 := hon HR2 ho; replace HO := htr HO ho; clear ho))
  have HC := hide (Blk.new w2 80 #[.string cA, .string hA])
  replace HR1 := hide (HR1.out.alloc (.cells #[.string cA, .string hA] 80))
  replace HR2 := hide (HR2.out.alloc (.cells #[.string cA, .string hA] 80))
  replace HO := hide (HO.out.alloc (.cells #[.string cA, .string hA] 80))
  generalize (w2.alloc (.cells #[.string cA, .string hA] 80)) = w3 at *
  go_cut [14, 15] (fun tv pv w' => ∃ g2, tv = .string sA ∧ pv = .pointer (some ⟨g2, 0, none⟩) ∧ w3.heap.size ≤ g2 ∧ Hid (Blk w' g2 80 #[.string cB, .string hB]) ∧ Hid (Only [] w3 w'))
  case first =>
    rename_i JJ KK hJJ hKK
    refine wp_region_held_drew (S := fun W => Only [] w3 W) (by kernel_rfl) (by exact (Only.refl [] w3).drew) (fun hHeld => ?_); generalize w3.drew = wd3 at *
    refine tk 0 ?_ (hy := by (intro w hSw; (try dsimp only at hSw); have HCw := HC.out.only hSw (by simp); have b0 := HCw.cell 0; have b1 := HCw.cell 1; simp at b0 b1; clear HCw; go_simp; try with_reducible rfl)); refine tk 1 ?_
    refine tk 2 ?_; refine tk 4 ?_; refine wpAnyH_ready (rs := [3, 10]) (by kernel_rfl) (by simp) ?_; refine (AllReadyH.cons rfl (fun K hK => ?_) (AllReadyH.cons rfl (fun K hK => ?_) AllReadyH.nil))
    · go_simp; (go_at_call 46; refine (KA1.out _).mono ?_; rintro e2 w3 ⟨rfl, ho⟩); refine hK.out _ _ (by first | exact hHeld.trans ho | exact hHeld.trans (ho.mono (by simp))) (fun hN => ?_)
      clear hK K ho hHeld; have hHeld := hN; clear hN; (try simp only [zsa, zsb, zsc, Act.put, zsd, zse, zsf])
      refine wpAnyH_ready (rs := [5, 10]) (by kernel_rfl) (by simp) ?_; refine (AllReadyH.cons rfl (fun K hK => ?_) (AllReadyH.cons rfl (fun K hK => ?_) AllReadyH.nil))
      · go_simp; (go_at_call 42; refine (KS.out _).mono ?_; rintro e2 w5 ⟨rfl, ho⟩); refine hK.out _ _ (by first | exact hHeld.trans ho | exact hHeld.trans (ho.mono (by simp))) (fun hN => ?_); clear hK K ho hHeld
        have hHeld := hN; clear hN; (try simp only [zsa, zsb, zsc, Act.put, zsd, zse, zsf])
        refine wpAnyH_ready (rs := [6, 10]) (by kernel_rfl) (by simp) ?_; refine (AllReadyH.cons rfl (fun K hK => ?_) (AllReadyH.cons rfl (fun K hK => ?_) AllReadyH.nil))
        · go_simp; (go_at_call 99; refine (KL1.out _).mono ?_; rintro e2 w6 ⟨rfl, ho⟩); refine hK.out _ _ (by first | exact hHeld.trans ho | exact hHeld.trans (ho.mono (by simp))) (fun hN => ?_)
          clear hK K ho hHeld; have hHeld := hN; clear hN; (try simp only [zsa, zsb, zsc, Act.put, zsd, zse, zsf])
          refine tk 7 ?_; refine tk 8 ?_; refine tk 9 ?_; refine wpAnyH_ready (rs := [10]) (by kernel_rfl) (by simp) ?_; refine (AllReadyH.cons rfl (fun K hK => ?_) AllReadyH.nil); go_simp; have HNS := hide hHeld.size
          refine hK.out _ _ (by exact hHeld.alloc _) (fun hN => ?_); clear hK K hHeld; have hHeld := hN; clear hN; (try simp only [zsa, zsb, zsc, Act.put, zsd, zse, zsf])
          have HNM := hide (Blk.new w6 80 #[.string ⟨#[]⟩, .string ⟨#[]⟩]); generalize (w6.alloc (.cells #[.string ⟨#[]⟩, .string ⟨#[]⟩] 80)) = w10 at *
          refine tk 11 ?_; refine wpAnyH_ready (rs := [12]) (by kernel_rfl) (by simp) ?_; refine (AllReadyH.cons rfl (fun K hK => ?_) AllReadyH.nil); rw [if_pos (by rfl)]
          refine wp_store_mid _ _ _ rfl _ _ #[.string cB, .string hB] rfl rfl (blk_there HNM.out _ rfl) (by kernel_rfl) (by simp [Value.oneCell']) ?_
          have HST := hide (show Blk (w10.setCells _ 0 [.string cB, .string hB]) _ 80 #[.string cB, .string hB] from blk_stored HNM.out [.string cB, .string hB] rfl)
          refine hK.out _ _ (by exact only_stored hHeld HNS.out [.string cB, .string hB]) (fun hHeldN => ?_); clear hK K hHeld; have hHeld := hHeldN; clear hHeldN; (try simp only [zsa, zsb, zsc, Act.put])
          refine wpAnyH_done (by kernel_rfl) ?_ _; dsimp only [Exit.then]; refine hKK _ _ ?_; go_meet; exact ⟨_, rfl, rfl, HNS.out, HST, hide hHeld⟩
        · go_simp; have HNS := hide hHeld.size; refine hK.out _ _ (by exact hHeld.alloc _) (fun hN => ?_); clear hK K hHeld; have hHeld := hN; clear hN; (try simp only [zsa, zsb, zsc, Act.put, zsd, zse, zsf])
          have HNM := hide (Blk.new w5 80 #[.string ⟨#[]⟩, .string ⟨#[]⟩]); generalize (w5.alloc (.cells #[.string ⟨#[]⟩, .string ⟨#[]⟩] 80)) = w10 at *
          refine wpAnyH_ready (rs := [6]) (by kernel_rfl) (by simp) ?_; refine (AllReadyH.cons rfl (fun K hK => ?_) AllReadyH.nil); go_simp
          (go_at_call 99; refine (KL1.out _).mono ?_; rintro e2 w6 ⟨rfl, ho⟩; replace HNM := hon HNM ho)
          refine hK.out _ _ (by first | exact hHeld.trans ho | exact hHeld.trans (ho.mono (by simp))) (fun hN => ?_); clear hK K ho hHeld; have hHeld := hN; clear hN; (try simp only [zsa, zsb, zsc, Act.put, zsd, zse, zsf])
          refine tk 7 ?_; refine tk 8 ?_; refine tk 9 ?_; refine tk 11 ?_; refine wpAnyH_ready (rs := [12]) (by kernel_rfl) (by simp) ?_; refine (AllReadyH.cons rfl (fun K hK => ?_) AllReadyH.nil); rw [if_pos (by rfl)]
          refine wp_store_mid _ _ _ rfl _ _ #[.string cB, .string hB] rfl rfl (blk_there HNM.out _ rfl) (by kernel_rfl) (by simp [Value.oneCell']) ?_
          have HST := hide (show Blk (w6.setCells _ 0 [.string cB, .string hB]) _ 80 #[.string cB, .string hB] from blk_stored HNM.out [.string cB, .string hB] rfl)
          refine hK.out _ _ (by exact only_stored hHeld HNS.out [.string cB, .string hB]) (fun hHeldN => ?_); clear hK K hHeld; have hHeld := hHeldN; clear hHeldN; (try simp only [zsa, zsb, zsc, Act.put])
          refine wpAnyH_done (by kernel_rfl) ?_ _; dsimp only [Exit.then]; refine hKK _ _ ?_; go_meet; exact ⟨_, rfl, rfl, HNS.out, HST, hide hHeld⟩
      · go_simp; have HNS := hide hHeld.size; refine hK.out _ _ (by exact hHeld.alloc _) (fun hN => ?_); clear hK K hHeld; have hHeld := hN; clear hN; (try simp only [zsa, zsb, zsc, Act.put, zsd, zse, zsf])
        have HNM := hide (Blk.new w3 80 #[.string ⟨#[]⟩, .string ⟨#[]⟩]); generalize (w3.alloc (.cells #[.string ⟨#[]⟩, .string ⟨#[]⟩] 80)) = w10 at *
        refine wpAnyH_ready (rs := [5]) (by kernel_rfl) (by simp) ?_; refine (AllReadyH.cons rfl (fun K hK => ?_) AllReadyH.nil); go_simp
        (go_at_call 42; refine (KS.out _).mono ?_; rintro e2 w5 ⟨rfl, ho⟩; replace HNM := hon HNM ho)
        refine hK.out _ _ (by first | exact hHeld.trans ho | exact hHeld.trans (ho.mono (by simp))) (fun hN => ?_); clear hK K ho hHeld; have hHeld := hN; clear hN; (try simp only [zsa, zsb, zsc, Act.put, zsd, zse, zsf])
        refine wpAnyH_ready (rs := [6]) (by kernel_rfl) (by simp) ?_; refine (AllReadyH.cons rfl (fun K hK => ?_) AllReadyH.nil); go_simp
        (go_at_call 99; refine (KL1.out _).mono ?_; rintro e2 w6 ⟨rfl, ho⟩; replace HNM := hon HNM ho)
        refine hK.out _ _ (by first | exact hHeld.trans ho | exact hHeld.trans (ho.mono (by simp))) (fun hN => ?_); clear hK K ho hHeld; have hHeld := hN; clear hN; (try simp only [zsa, zsb, zsc, Act.put, zsd, zse, zsf])
        refine tk 7 ?_; refine tk 8 ?_; refine tk 9 ?_; refine tk 11 ?_; refine wpAnyH_ready (rs := [12]) (by kernel_rfl) (by simp) ?_; refine (AllReadyH.cons rfl (fun K hK => ?_) AllReadyH.nil); rw [if_pos (by rfl)]
        refine wp_store_mid _ _ _ rfl _ _ #[.string cB, .string hB] rfl rfl (blk_there HNM.out _ rfl) (by kernel_rfl) (by simp [Value.oneCell']) ?_
        have HST := hide (show Blk (w6.setCells _ 0 [.string cB, .string hB]) _ 80 #[.string cB, .string hB] from blk_stored HNM.out [.string cB, .string hB] rfl)
        refine hK.out _ _ (by exact only_stored hHeld HNS.out [.string cB, .string hB]) (fun hHeldN => ?_); clear hK K hHeld; have hHeld := hHeldN; clear hHeldN; (try simp only [zsa, zsb, zsc, Act.put])
        refine wpAnyH_done (by kernel_rfl) ?_ _; dsimp only [Exit.then]; refine hKK _ _ ?_; go_meet; exact ⟨_, rfl, rfl, HNS.out, HST, hide hHeld⟩
    · go_simp; have HNS := hide hHeld.size; refine hK.out _ _ (by exact hHeld.alloc _) (fun hN => ?_); clear hK K hHeld; have hHeld := hN; clear hN; (try simp only [zsa, zsb, zsc, Act.put, zsd, zse, zsf])
      have HNM := hide (Blk.new wd3 80 #[.string ⟨#[]⟩, .string ⟨#[]⟩]); generalize (wd3.alloc (.cells #[.string ⟨#[]⟩, .string ⟨#[]⟩] 80)) = w10 at *
      refine wpAnyH_ready (rs := [3]) (by kernel_rfl) (by simp) ?_; refine (AllReadyH.cons rfl (fun K hK => ?_) AllReadyH.nil); go_simp
      (go_at_call 46; refine (KA1.out _).mono ?_; rintro e2 w3 ⟨rfl, ho⟩; replace HNM := hon HNM ho)
      refine hK.out _ _ (by first | exact hHeld.trans ho | exact hHeld.trans (ho.mono (by simp))) (fun hN => ?_); clear hK K ho hHeld; have hHeld := hN; clear hN; (try simp only [zsa, zsb, zsc, Act.put, zsd, zse, zsf])
      refine wpAnyH_ready (rs := [5]) (by kernel_rfl) (by simp) ?_; refine (AllReadyH.cons rfl (fun K hK => ?_) AllReadyH.nil); go_simp
      (go_at_call 42; refine (KS.out _).mono ?_; rintro e2 w5 ⟨rfl, ho⟩; replace HNM := hon HNM ho)
      refine hK.out _ _ (by first | exact hHeld.trans ho | exact hHeld.trans (ho.mono (by simp))) (fun hN => ?_); clear hK K ho hHeld; have hHeld := hN; clear hN; (try simp only [zsa, zsb, zsc, Act.put, zsd, zse, zsf])
      refine wpAnyH_ready (rs := [6]) (by kernel_rfl) (by simp) ?_; refine (AllReadyH.cons rfl (fun K hK => ?_) AllReadyH.nil); go_simp
      (go_at_call 99; refine (KL1.out _).mono ?_; rintro e2 w6 ⟨rfl, ho⟩; replace HNM := hon HNM ho)
      refine hK.out _ _ (by first | exact hHeld.trans ho | exact hHeld.trans (ho.mono (by simp))) (fun hN => ?_); clear hK K ho hHeld; have hHeld := hN; clear hN; (try simp only [zsa, zsb, zsc, Act.put, zsd, zse, zsf])
      refine tk 7 ?_; refine tk 8 ?_; refine tk 9 ?_; refine tk 11 ?_; refine wpAnyH_ready (rs := [12]) (by kernel_rfl) (by simp) ?_; refine (AllReadyH.cons rfl (fun K hK => ?_) AllReadyH.nil); rw [if_pos (by rfl)]
      refine wp_store_mid _ _ _ rfl _ _ #[.string cB, .string hB] rfl rfl (blk_there HNM.out _ rfl) (by kernel_rfl) (by simp [Value.oneCell']) ?_
      have HST := hide (show Blk (w6.setCells _ 0 [.string cB, .string hB]) _ 80 #[.string cB, .string hB] from blk_stored HNM.out [.string cB, .string hB] rfl)
      refine hK.out _ _ (by exact only_stored hHeld HNS.out [.string cB, .string hB]) (fun hHeldN => ?_); clear hK K hHeld; have hHeld := hHeldN; clear hHeldN; (try simp only [zsa, zsb, zsc, Act.put])
      refine wpAnyH_done (by kernel_rfl) ?_ _; dsimp only [Exit.then]; refine hKK _ _ ?_; go_meet; exact ⟨_, rfl, rfl, HNS.out, HST, hide hHeld⟩
  obtain ⟨g1, rfl, rfl, hg2, HC2, HO2⟩ := hcut
  have HGC := hide (show w.heap.size + 1 < g1 from Nat.lt_of_lt_of_le HR2.out.lt hg2)
  replace HR1 := hon HR1 HO2.out
  replace HR2 := hon HR2 HO2.out
  replace HO := htr HO HO2.out
  have HC := HC2
  clear HC2 HO2 hg2
  rename World => w4
  go_upto_region 4 with fail
  go_cut [16, 17] (fun tv pv w' => ∃ g2, tv = .string sB ∧ pv = .pointer (some ⟨g2, 0, none⟩) ∧ w4.heap.size ≤ g2 ∧ Hid (Blk w' g2 80 #[.string cC, .string hC]) ∧ Hid (Only [] w4 w'))
  case first =>
    rename_i JJ KK hJJ hKK
    refine wp_region_held_drew (S := fun W => Only [] w4 W) (by kernel_rfl) (by exact (Only.refl [] w4).drew) (fun hHeld => ?_); generalize w4.drew = wd4 at *
    refine tk 0 ?_ (hy := by (intro w hSw; (try dsimp only at hSw); have HCw := HC.out.only hSw (by simp); have b0 := HCw.cell 0; have b1 := HCw.cell 1; simp at b0 b1; clear HCw; go_simp; try with_reducible rfl)); refine tk 1 ?_
    refine tk 2 ?_; refine tk 4 ?_; refine wpAnyH_ready (rs := [3, 10]) (by kernel_rfl) (by simp) ?_; refine (AllReadyH.cons rfl (fun K hK => ?_) (AllReadyH.cons rfl (fun K hK => ?_) AllReadyH.nil))
    · go_simp; (go_at_call 46; refine (KA2.out _).mono ?_; rintro e2 w3 ⟨rfl, ho⟩); refine hK.out _ _ (by first | exact hHeld.trans ho | exact hHeld.trans (ho.mono (by simp))) (fun hN => ?_)
      clear hK K ho hHeld; have hHeld := hN; clear hN; (try simp only [zsa, zsb, zsc, Act.put, zsd, zse, zsf])
      refine wpAnyH_ready (rs := [5, 10]) (by kernel_rfl) (by simp) ?_; refine (AllReadyH.cons rfl (fun K hK => ?_) (AllReadyH.cons rfl (fun K hK => ?_) AllReadyH.nil))
      · go_simp; (go_at_call 67; refine (KN.out _).mono ?_; rintro e2 w5 ⟨rfl, ho⟩); refine hK.out _ _ (by first | exact hHeld.trans ho | exact hHeld.trans (ho.mono (by simp))) (fun hN => ?_)
        clear hK K ho hHeld; have hHeld := hN; clear hN; (try simp only [zsa, zsb, zsc, Act.put, zsd, zse, zsf])
        refine wpAnyH_ready (rs := [6, 10]) (by kernel_rfl) (by simp) ?_; refine (AllReadyH.cons rfl (fun K hK => ?_) (AllReadyH.cons rfl (fun K hK => ?_) AllReadyH.nil))
        · go_simp; (go_at_call 99; refine (KL2.out _).mono ?_; rintro e2 w6 ⟨rfl, ho⟩); refine hK.out _ _ (by first | exact hHeld.trans ho | exact hHeld.trans (ho.mono (by simp))) (fun hN => ?_)
          clear hK K ho hHeld; have hHeld := hN; clear hN; (try simp only [zsa, zsb, zsc, Act.put, zsd, zse, zsf])
          refine tk 7 ?_; refine tk 8 ?_; refine tk 9 ?_; refine wpAnyH_ready (rs := [10]) (by kernel_rfl) (by simp) ?_; refine (AllReadyH.cons rfl (fun K hK => ?_) AllReadyH.nil); go_simp; have HNS := hide hHeld.size
          refine hK.out _ _ (by exact hHeld.alloc _) (fun hN => ?_); clear hK K hHeld; have hHeld := hN; clear hN; (try simp only [zsa, zsb, zsc, Act.put, zsd, zse, zsf])
          have HNM := hide (Blk.new w6 80 #[.string ⟨#[]⟩, .string ⟨#[]⟩]); generalize (w6.alloc (.cells #[.string ⟨#[]⟩, .string ⟨#[]⟩] 80)) = w10 at *
          refine tk 11 ?_; refine wpAnyH_ready (rs := [12]) (by kernel_rfl) (by simp) ?_; refine (AllReadyH.cons rfl (fun K hK => ?_) AllReadyH.nil); rw [if_pos (by rfl)]
          refine wp_store_mid _ _ _ rfl _ _ #[.string cC, .string hC] rfl rfl (blk_there HNM.out _ rfl) (by kernel_rfl) (by simp [Value.oneCell']) ?_
          have HST := hide (show Blk (w10.setCells _ 0 [.string cC, .string hC]) _ 80 #[.string cC, .string hC] from blk_stored HNM.out [.string cC, .string hC] rfl)
          refine hK.out _ _ (by exact only_stored hHeld HNS.out [.string cC, .string hC]) (fun hHeldN => ?_); clear hK K hHeld; have hHeld := hHeldN; clear hHeldN; (try simp only [zsa, zsb, zsc, Act.put])
          refine wpAnyH_done (by kernel_rfl) ?_ _; dsimp only [Exit.then]; refine hKK _ _ ?_; go_meet; exact ⟨_, rfl, rfl, HNS.out, HST, hide hHeld⟩
        · go_simp; have HNS := hide hHeld.size; refine hK.out _ _ (by exact hHeld.alloc _) (fun hN => ?_); clear hK K hHeld; have hHeld := hN; clear hN; (try simp only [zsa, zsb, zsc, Act.put, zsd, zse, zsf])
          have HNM := hide (Blk.new w5 80 #[.string ⟨#[]⟩, .string ⟨#[]⟩]); generalize (w5.alloc (.cells #[.string ⟨#[]⟩, .string ⟨#[]⟩] 80)) = w10 at *
          refine wpAnyH_ready (rs := [6]) (by kernel_rfl) (by simp) ?_; refine (AllReadyH.cons rfl (fun K hK => ?_) AllReadyH.nil); go_simp
          (go_at_call 99; refine (KL2.out _).mono ?_; rintro e2 w6 ⟨rfl, ho⟩; replace HNM := hon HNM ho)
          refine hK.out _ _ (by first | exact hHeld.trans ho | exact hHeld.trans (ho.mono (by simp))) (fun hN => ?_); clear hK K ho hHeld; have hHeld := hN; clear hN; (try simp only [zsa, zsb, zsc, Act.put, zsd, zse, zsf])
          refine tk 7 ?_; refine tk 8 ?_; refine tk 9 ?_; refine tk 11 ?_; refine wpAnyH_ready (rs := [12]) (by kernel_rfl) (by simp) ?_; refine (AllReadyH.cons rfl (fun K hK => ?_) AllReadyH.nil); rw [if_pos (by rfl)]
          refine wp_store_mid _ _ _ rfl _ _ #[.string cC, .string hC] rfl rfl (blk_there HNM.out _ rfl) (by kernel_rfl) (by simp [Value.oneCell']) ?_
          have HST := hide (show Blk (w6.setCells _ 0 [.string cC, .string hC]) _ 80 #[.string cC, .string hC] from blk_stored HNM.out [.string cC, .string hC] rfl)
          refine hK.out _ _ (by exact only_stored hHeld HNS.out [.string cC, .string hC]) (fun hHeldN => ?_); clear hK K hHeld; have hHeld := hHeldN; clear hHeldN; (try simp only [zsa, zsb, zsc, Act.put])
          refine wpAnyH_done (by kernel_rfl) ?_ _; dsimp only [Exit.then]; refine hKK _ _ ?_; go_meet; exact ⟨_, rfl, rfl, HNS.out, HST, hide hHeld⟩
      · go_simp; have HNS := hide hHeld.size; refine hK.out _ _ (by exact hHeld.alloc _) (fun hN => ?_); clear hK K hHeld; have hHeld := hN; clear hN; (try simp only [zsa, zsb, zsc, Act.put, zsd, zse, zsf])
        have HNM := hide (Blk.new w3 80 #[.string ⟨#[]⟩, .string ⟨#[]⟩]); generalize (w3.alloc (.cells #[.string ⟨#[]⟩, .string ⟨#[]⟩] 80)) = w10 at *
        refine wpAnyH_ready (rs := [5]) (by kernel_rfl) (by simp) ?_; refine (AllReadyH.cons rfl (fun K hK => ?_) AllReadyH.nil); go_simp
        (go_at_call 67; refine (KN.out _).mono ?_; rintro e2 w5 ⟨rfl, ho⟩; replace HNM := hon HNM ho)
        refine hK.out _ _ (by first | exact hHeld.trans ho | exact hHeld.trans (ho.mono (by simp))) (fun hN => ?_); clear hK K ho hHeld; have hHeld := hN; clear hN; (try simp only [zsa, zsb, zsc, Act.put, zsd, zse, zsf])
        refine wpAnyH_ready (rs := [6]) (by kernel_rfl) (by simp) ?_; refine (AllReadyH.cons rfl (fun K hK => ?_) AllReadyH.nil); go_simp
        (go_at_call 99; refine (KL2.out _).mono ?_; rintro e2 w6 ⟨rfl, ho⟩; replace HNM := hon HNM ho)
        refine hK.out _ _ (by first | exact hHeld.trans ho | exact hHeld.trans (ho.mono (by simp))) (fun hN => ?_); clear hK K ho hHeld; have hHeld := hN; clear hN; (try simp only [zsa, zsb, zsc, Act.put, zsd, zse, zsf])
        refine tk 7 ?_; refine tk 8 ?_; refine tk 9 ?_; refine tk 11 ?_; refine wpAnyH_ready (rs := [12]) (by kernel_rfl) (by simp) ?_; refine (AllReadyH.cons rfl (fun K hK => ?_) AllReadyH.nil); rw [if_pos (by rfl)]
        refine wp_store_mid _ _ _ rfl _ _ #[.string cC, .string hC] rfl rfl (blk_there HNM.out _ rfl) (by kernel_rfl) (by simp [Value.oneCell']) ?_
        have HST := hide (show Blk (w6.setCells _ 0 [.string cC, .string hC]) _ 80 #[.string cC, .string hC] from blk_stored HNM.out [.string cC, .string hC] rfl)
        refine hK.out _ _ (by exact only_stored hHeld HNS.out [.string cC, .string hC]) (fun hHeldN => ?_); clear hK K hHeld; have hHeld := hHeldN; clear hHeldN; (try simp only [zsa, zsb, zsc, Act.put])
        refine wpAnyH_done (by kernel_rfl) ?_ _; dsimp only [Exit.then]; refine hKK _ _ ?_; go_meet; exact ⟨_, rfl, rfl, HNS.out, HST, hide hHeld⟩
    · go_simp; have HNS := hide hHeld.size; refine hK.out _ _ (by exact hHeld.alloc _) (fun hN => ?_); clear hK K hHeld; have hHeld := hN; clear hN; (try simp only [zsa, zsb, zsc, Act.put, zsd, zse, zsf])
      have HNM := hide (Blk.new wd4 80 #[.string ⟨#[]⟩, .string ⟨#[]⟩]); generalize (wd4.alloc (.cells #[.string ⟨#[]⟩, .string ⟨#[]⟩] 80)) = w10 at *
      refine wpAnyH_ready (rs := [3]) (by kernel_rfl) (by simp) ?_; refine (AllReadyH.cons rfl (fun K hK => ?_) AllReadyH.nil); go_simp
      (go_at_call 46; refine (KA2.out _).mono ?_; rintro e2 w3 ⟨rfl, ho⟩; replace HNM := hon HNM ho)
      refine hK.out _ _ (by first | exact hHeld.trans ho | exact hHeld.trans (ho.mono (by simp))) (fun hN => ?_); clear hK K ho hHeld; have hHeld := hN; clear hN; (try simp only [zsa, zsb, zsc, Act.put, zsd, zse, zsf])
      refine wpAnyH_ready (rs := [5]) (by kernel_rfl) (by simp) ?_; refine (AllReadyH.cons rfl (fun K hK => ?_) AllReadyH.nil); go_simp
      (go_at_call 67; refine (KN.out _).mono ?_; rintro e2 w5 ⟨rfl, ho⟩; replace HNM := hon HNM ho)
      refine hK.out _ _ (by first | exact hHeld.trans ho | exact hHeld.trans (ho.mono (by simp))) (fun hN => ?_); clear hK K ho hHeld; have hHeld := hN; clear hN; (try simp only [zsa, zsb, zsc, Act.put, zsd, zse, zsf])
      refine wpAnyH_ready (rs := [6]) (by kernel_rfl) (by simp) ?_; refine (AllReadyH.cons rfl (fun K hK => ?_) AllReadyH.nil); go_simp
      (go_at_call 99; refine (KL2.out _).mono ?_; rintro e2 w6 ⟨rfl, ho⟩; replace HNM := hon HNM ho)
      refine hK.out _ _ (by first | exact hHeld.trans ho | exact hHeld.trans (ho.mono (by simp))) (fun hN => ?_); clear hK K ho hHeld; have hHeld := hN; clear hN; (try simp only [zsa, zsb, zsc, Act.put, zsd, zse, zsf])
      refine tk 7 ?_; refine tk 8 ?_; refine tk 9 ?_; refine tk 11 ?_; refine wpAnyH_ready (rs := [12]) (by kernel_rfl) (by simp) ?_; refine (AllReadyH.cons rfl (fun K hK => ?_) AllReadyH.nil); rw [if_pos (by rfl)]
      refine wp_store_mid _ _ _ rfl _ _ #[.string cC, .string hC] rfl rfl (blk_there HNM.out _ rfl) (by kernel_rfl) (by simp [Value.oneCell']) ?_
      have HST := hide (show Blk (w6.setCells _ 0 [.string cC, .string hC]) _ 80 #[.string cC, .string hC] from blk_stored HNM.out [.string cC, .string hC] rfl)
      refine hK.out _ _ (by exact only_stored hHeld HNS.out [.string cC, .string hC]) (fun hHeldN => ?_); clear hK K hHeld; have hHeld := hHeldN; clear hHeldN; (try simp only [zsa, zsb, zsc, Act.put])
      refine wpAnyH_done (by kernel_rfl) ?_ _; dsimp only [Exit.then]; refine hKK _ _ ?_; go_meet; exact ⟨_, rfl, rfl, HNS.out, HST, hide hHeld⟩
  obtain ⟨g2, rfl, rfl, hg2, HC2, HO2⟩ := hcut
  have HGC := hide (show w.heap.size + 1 < g2 from Nat.lt_of_lt_of_le HR2.out.lt hg2)
  replace HR1 := hon HR1 HO2.out
  replace HR2 := hon HR2 HO2.out
  replace HO := htr HO HO2.out
  have HC := HC2
  clear HC2 HO2 hg2
  rename World => wb5
  go_upto_region 5 with fail
  clear KE KB KA1 KS KL1 KA2 KN KL2
  replace HR1 := hide HR1.out.drew
  replace HR2 := hide HR2.out.drew
  refine wp_region_held_drew (S := fun W => Only [w.heap.size, w.heap.size + 1] wb5 W) (by kernel_rfl) (by exact (Only.refl [w.heap.size, w.heap.size + 1] wb5).drew) (fun hHeld => ?_); generalize wb5.drew = wd5 at *
  refine tk 0 ?_; refine tk 1 ?_; refine tk 2 ?_; refine tk 3 ?_
  refine tk 6 ?_ (hy := by (intro w hSw; (try dsimp only at hSw); have HCw := HC.out.only hSw (by have := HGC.out; simp; omega); have b0 := HCw.cell 0; have b1 := HCw.cell 1; simp at b0 b1; clear HCw; go_simp; try with_reducible rfl))
  refine wpAnyH_ready (rs := [4]) (by kernel_rfl) (by simp) ?_; refine (AllReadyH.cons rfl (fun K hK => ?_) AllReadyH.nil); go_simp; refine hK.out _ _ (by exact hHeld.alloc _) (fun hN => ?_); clear hK K hHeld; have hHeld := hN
  clear hN; (try simp only [zsa, zsb, zsc, Act.put, zsd, zse, zsf]); replace HR1 := hide (HR1.out.alloc (.cells #[.string ep, .string sA, .string sB, .string ⟨#[48]⟩, .string ⟨#[48]⟩] 9))
  replace HR2 := hide (HR2.out.alloc (.cells #[.string ep, .string sA, .string sB, .string ⟨#[48]⟩, .string ⟨#[48]⟩] 9))
  have HSB := hide (Blk.new wd5 9 #[.string ep, .string sA, .string sB, .string ⟨#[48]⟩, .string ⟨#[48]⟩]); obtain ⟨sg, hsg⟩ : ∃ x, x = wd5.heap.size := ⟨_, rfl⟩; rw [← hsg] at HSB ⊢; clear hsg
  generalize (wd5.alloc (.cells #[.string ep, .string sA, .string sB, .string ⟨#[48]⟩, .string ⟨#[48]⟩] 9)) = w4 at *
  refine wpAnyH_ready (rs := [5]) (by kernel_rfl) (by simp) ?_; refine (AllReadyH.cons rfl (fun K hK => ?_) AllReadyH.nil); go_simp
  (have s0 := HSB.out.cell 0; have s1 := HSB.out.cell 1; have s2 := HSB.out.cell 2; have s3 := HSB.out.cell 3; have s4 := HSB.out.cell 4; simp at s0 s1 s2 s3 s4; go_at_call 47; refine (With_1 w4 sd 0 0 sg 0 5 ep sA sB ⟨#[48]⟩ ⟨#[48]⟩ (by omega) s0 s1 s2 s3 s4).mono ?_; rintro e2 w5 ⟨rfl, ho⟩; replace HR1 := hon HR1 ho; replace HR2 := hon HR2 ho; clear s0 s1 s2 s3 s4)
  refine hK.out _ _ (by first | exact hHeld.trans ho | exact hHeld.trans (ho.mono (by simp))) (fun hN => ?_); clear hK K ho hHeld; have hHeld := hN; clear hN; (try simp only [zsa, zsb, zsc, Act.put, zsd, zse, zsf])
  refine wpAnyH_ready (rs := [7]) (by kernel_rfl) (by simp) ?_; refine (AllReadyH.cons rfl (fun K hK => ?_) AllReadyH.nil); rw [if_pos (by rfl)]
  refine wp_store_mid _ _ _ rfl _ _ #[.int .i64 1, .int .u32 (sd : Nat), .int .u32 0, .int .u64 0, .string ep, .string sA, .string sB, .string ⟨#[]⟩, .string ⟨#[]⟩, .string ⟨#[]⟩, .string ⟨#[]⟩, .string ⟨#[48]⟩, .string ⟨#[48]⟩] rfl rfl (blk_there HR1.out _ rfl) (by kernel_rfl) (by simp [Value.oneCell']) ?_
  replace HR1 := hide (show Blk (w5.setCells (w.heap.size) 0 [.int .i64 1, .int .u32 (sd : Nat), .int .u32 0, .int .u64 0, .string ep, .string sA, .string sB, .string ⟨#[]⟩, .string ⟨#[]⟩, .string ⟨#[]⟩, .string ⟨#[]⟩, .string ⟨#[48]⟩, .string ⟨#[48]⟩]) _ _ #[.int .i64 1, .int .u32 (sd : Nat), .int .u32 0, .int .u64 0, .string ep, .string sA, .string sB, .string ⟨#[]⟩, .string ⟨#[]⟩, .string ⟨#[]⟩, .string ⟨#[]⟩, .string ⟨#[48]⟩, .string ⟨#[48]⟩] from blk_stored HR1.out [.int .i64 1, .int .u32 (sd : Nat), .int .u32 0, .int .u64 0, .string ep, .string sA, .string sB, .string ⟨#[]⟩, .string ⟨#[]⟩, .string ⟨#[]⟩, .string ⟨#[]⟩, .string ⟨#[48]⟩, .string ⟨#[48]⟩] rfl)
  replace HR2 := hide (blk_far HR2.out (Nat.ne_of_lt (Nat.lt_succ_self _)) [.int .i64 1, .int .u32 (sd : Nat), .int .u32 0, .int .u64 0, .string ep, .string sA, .string sB, .string ⟨#[]⟩, .string ⟨#[]⟩, .string ⟨#[]⟩, .string ⟨#[]⟩, .string ⟨#[48]⟩, .string ⟨#[48]⟩])
  refine hK.out _ _ (by exact Only.setCells (.inl (by simp)) 0 [.int .i64 1, .int .u32 (sd : Nat), .int .u32 0, .int .u64 0, .string ep, .string sA, .string sB, .string ⟨#[]⟩, .string ⟨#[]⟩, .string ⟨#[]⟩, .string ⟨#[]⟩, .string ⟨#[48]⟩, .string ⟨#[48]⟩] hHeld) (fun hHeldN => ?_)
  clear hK K hHeld; have hHeld := hHeldN; clear hHeldN; (try simp only [zsa, zsb, zsc, Act.put])
  generalize (w5.setCells (w.heap.size) 0 [.int .i64 1, .int .u32 (sd : Nat), .int .u32 0, .int .u64 0, .string ep, .string sA, .string sB, .string ⟨#[]⟩, .string ⟨#[]⟩, .string ⟨#[]⟩, .string ⟨#[]⟩, .string ⟨#[48]⟩, .string ⟨#[48]⟩]) = ws1 at *
  refine wpAnyH_ready (rs := [8]) (by kernel_rfl) (by simp) ?_; refine (AllReadyH.cons rfl (fun K hK => ?_) AllReadyH.nil); rw [if_pos (by rfl)]
  refine wp_store_mid _ _ _ rfl _ _ #[.string cC, .string hC] rfl rfl (blk_there HR2.out _ rfl) (by kernel_rfl) (by simp [Value.oneCell']) ?_
  replace HR2 := hide (show Blk (ws1.setCells (w.heap.size + 1) 0 [.string cC, .string hC]) _ _ #[.string cC, .string hC] from blk_stored HR2.out [.string cC, .string hC] rfl)
  replace HR1 := hide (blk_far HR1.out (Nat.ne_of_gt (Nat.lt_succ_self _)) [.string cC, .string hC]); refine hK.out _ _ (by exact Only.setCells (.inl (by simp)) 0 [.string cC, .string hC] hHeld) (fun hHeldN => ?_); clear hK K hHeld
  have hHeld := hHeldN; clear hHeldN; (try simp only [zsa, zsb, zsc, Act.put]); generalize (ws1.setCells (w.heap.size + 1) 0 [.string cC, .string hC]) = ws2 at *; refine wpAnyH_done (by kernel_rfl) ?_ _
  (repeat go_step)
  refine bodyPost_ret (results_cells2 rfl _ _ w.heap.size (w.heap.size + 1) 25 80 _ _ (0, 0) (0, 0) _ _ rfl rfl HR1.out HR2.out Tryz.underlying25 rfl (by kernel_rfl) Tryz.underlying80 rfl (by kernel_rfl)) rfl ?_
  exact ⟨rfl, ((HO.out.mono (by simp)).trans hHeld).mono (by intro x hx; right; simp at hx; omega)⟩
theorem BeginR_any (w : World) (s e tt : ByteArray) (n sd : Nat) (hs : s.size ≤ maxLen) (he : e.size ≤ maxLen) (ht : tt.size ≤ maxLen) (hn : n < 18446744073709551616) :
    Calls Tryz.prog 40 #[.string s, .string e, .string tt, .int .u64 n, .int .u32 sd] w fun e' w' => e' = .returned (.tuple #[.agg #[.int .i64 1, .int .u32 (sd : Nat), .int .u32 0, .int .u64 0, .string (begV s e tt n).eph, .string (begV s e tt n).sA, .string (begV s e tt n).sB, .string ⟨#[]⟩, .string ⟨#[]⟩, .string ⟨#[]⟩, .string ⟨#[]⟩, .string ⟨#[48]⟩, .string ⟨#[48]⟩], .agg #[.string (begV s e tt n).c, .string (begV s e tt n).h]]) ∧ Only [] w w' := by
  obtain ⟨ep, e_ep⟩ : ∃ x, pubT e = x := ⟨_, rfl⟩
  obtain ⟨cA, e_cA⟩ : ∃ x, begC ep = x := ⟨_, rfl⟩
  obtain ⟨hA, e_hA⟩ : ∃ x, begH tt ep = x := ⟨_, rfl⟩
  obtain ⟨uA, e_uA⟩ : ∃ x, agreeT e tt = x := ⟨_, rfl⟩
  obtain ⟨kA, e_kA⟩ : ∃ x, kdfT 2 cA uA = x := ⟨_, rfl⟩
  obtain ⟨cB, e_cB⟩ : ∃ x, kdfT 1 cA uA = x := ⟨_, rfl⟩
  obtain ⟨ps, e_ps⟩ : ∃ x, pubT s = x := ⟨_, rfl⟩
  obtain ⟨sA, e_sA⟩ : ∃ x, sealN kA ps hA = x := ⟨_, rfl⟩
  obtain ⟨hB, e_hB⟩ : ∃ x, hashT hA sA = x := ⟨_, rfl⟩
  obtain ⟨uB, e_uB⟩ : ∃ x, agreeT s tt = x := ⟨_, rfl⟩
  obtain ⟨kB, e_kB⟩ : ∃ x, kdfT 2 cB uB = x := ⟨_, rfl⟩
  obtain ⟨cC, e_cC⟩ : ∃ x, kdfT 1 cB uB = x := ⟨_, rfl⟩
  obtain ⟨nb, e_nb⟩ : ∃ x, numT n = x := ⟨_, rfl⟩
  obtain ⟨sB, e_sB⟩ : ∃ x, sealN kB nb hB = x := ⟨_, rfl⟩
  obtain ⟨hC, e_hC⟩ : ∃ x, hashT hB sB = x := ⟨_, rfl⟩
  have hbv : begV s e tt n = ⟨ep, sA, sB, cC, hC⟩ := by
    unfold begV
    simp only [e_ep, e_cA, e_hA, e_uA, e_kA, e_cB, e_ps, e_sA, e_hB, e_uB, e_kB, e_cC, e_nb, e_sB, e_hC]
  rw [hbv]
  exact BeginR_in w s e tt n sd hs he ht hn ep cA hA uA kA cB ps sA hB uB kB cC nb sB hC e_ep e_cA e_hA e_uA e_kA e_cB e_ps e_sA e_hB e_uB e_kB e_cC e_nb e_sB e_hC
end
end Go.Proofs.YtfipdjlalfpbnaaGreatDoor

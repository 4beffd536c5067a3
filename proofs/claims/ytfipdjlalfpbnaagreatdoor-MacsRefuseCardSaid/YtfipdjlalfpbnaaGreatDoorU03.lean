/-
  Walks and plain words (texts Ms6, Ms10). No condition beyond those that each theorem states.
-/
import Derived.Test.YtfipdjlalfpbnaaGreatDoorM25
import Derived.Test.YtfipdjlalfpbnaaGreatDoorM35
import Derived.Test.YtfipdjlalfpbnaaGreatDoorU01
import Derived.Test.YtfipdjlalfpbnaaGreatDoorU02
namespace Go.Proofs.YtfipdjlalfpbnaaGreatDoor
section
open Go.RowKit Go.Deep

set_option maxRecDepth 100000 in
set_option maxHeartbeats 12800000 in
theorem RefuseR_any (w : World) (m : Mg) (p c2 : ByteArray) (n : Nat) (hF : m.Fine) (hp : p.size ≤ maxLen) (hc : c2.size ≤ maxLen) (hn : n < 18446744073709551616) : Calls Tryz.prog 24 #[.agg m.cells, .string p, .string c2, .int .u64 (n : Nat)] w fun e w' => e = .returned (.agg (refM m.s (numT n) (sealJ n p c2 m.x11)).cells) ∧ Only [] w w' := by
  obtain ⟨nb, e_nb⟩ : ∃ x, numT n = x := ⟨_, rfl⟩
  obtain ⟨sx, e_sx⟩ : ∃ x, sealJ n p c2 m.x11 = x := ⟨_, rfl⟩
  rw [e_nb, e_sx]
  have KN := hide (fun W => NumberR_any W n hn)
  rw [e_nb] at KN
  have KJ := hide (fun W G hG => hashR_new2 W G hG ⟨#[120, 54, 51, 54, 102, 54, 102, 54, 98, 54, 57, 54, 53]⟩ p (by unfold maxLen; show 13 ≤ _; omega) hp)
  change Hid (∀ W G hG, Calls _ _ _ _ (MakePost (jarT p) W)) at KJ
  have KS := hide (fun W => SealR_any W n hn (jarT p) c2 m.x11 (jar_size p) hc hF.x11)
  rw [show makeV 10 n [] [jarT p, c2, m.x11] = sx from e_sx] at KS
  unfold MakePost at KN KJ KS
  clear e_nb e_sx
  generalize jarT p = jp at *
  obtain ⟨k, s, r, c, x4, x5, x6, x7, x8, x9, x10, x11, x12⟩ := m
  unfold Mg.cells refM noT
  simp only at KS ⊢
  have HMB := hide ((Blk.new w 25 #[.int .i64 k, .int .u32 (s : Nat), .int .u32 (r : Nat), .int .u64 (c : Nat), .string x4, .string x5, .string x6, .string x7, .string x8, .string x9, .string x10, .string x11, .string x12]).alloc (.cells #[.int .i64 0, .int .u32 0, .int .u32 0, .int .u64 0, .string ⟨#[]⟩, .string ⟨#[]⟩, .string ⟨#[]⟩, .string ⟨#[]⟩, .string ⟨#[]⟩, .string ⟨#[]⟩, .string ⟨#[]⟩, .string ⟨#[]⟩, .string ⟨#[]⟩] 25))
  have HRB := hide (Blk.new (w.alloc (.cells #[.int .i64 k, .int .u32 (s : Nat), .int .u32 (r : Nat), .int .u64 (c : Nat), .string x4, .string x5, .string x6, .string x7, .string x8, .string x9, .string x10, .string x11, .string x12] 25)) 25 #[.int .i64 0, .int .u32 0, .int .u32 0, .int .u64 0, .string ⟨#[]⟩, .string ⟨#[]⟩, .string ⟨#[]⟩, .string ⟨#[]⟩, .string ⟨#[]⟩, .string ⟨#[]⟩, .string ⟨#[]⟩, .string ⟨#[]⟩, .string ⟨#[]⟩])
  rw [World.size_alloc] at HRB
  have HO := hide (((Only.refl [] w).alloc (.cells #[.int .i64 k, .int .u32 (s : Nat), .int .u32 (r : Nat), .int .u64 (c : Nat), .string x4, .string x5, .string x6, .string x7, .string x8, .string x9, .string x10, .string x11, .string x12] 25)).alloc (.cells #[.int .i64 0, .int .u32 0, .int .u32 0, .int .u64 0, .string ⟨#[]⟩, .string ⟨#[]⟩, .string ⟨#[]⟩, .string ⟨#[]⟩, .string ⟨#[]⟩, .string ⟨#[]⟩, .string ⟨#[]⟩, .string ⟨#[]⟩, .string ⟨#[]⟩] 25))
  clear hF hp hc hn
  go_enter Tryz.func24, Tryz.ntmps24
  go_upto_region 1 with fail
  generalize ((w.alloc (.cells #[.int .i64 k, .int .u32 (s : Nat), .int .u32 (r : Nat), .int .u64 (c : Nat), .string x4, .string x5, .string x6, .string x7, .string x8, .string x9, .string x10, .string x11, .string x12] 25)).alloc (.cells #[.int .i64 0, .int .u32 0, .int .u32 0, .int .u64 0, .string ⟨#[]⟩, .string ⟨#[]⟩, .string ⟨#[]⟩, .string ⟨#[]⟩, .string ⟨#[]⟩, .string ⟨#[]⟩, .string ⟨#[]⟩, .string ⟨#[]⟩, .string ⟨#[]⟩] 25)) = v0 at *
  go_upto_region 2 with (go_at_call 59; refine (KJ.out _ _ rfl).mono ?_; rintro e2 x1 ⟨rfl, ho⟩; replace HMB := hide (HMB.out.only ho (by simp)); replace HRB := hide (HRB.out.only ho (by simp)); replace HO := hide (HO.out.trans ho); clear ho)
  rename World => v1
  replace HRB := hide HRB.out.drew
  refine wp_region_held_drew (S := fun W => Only [w.heap.size + 1] v1 W) (by kernel_rfl) (by exact (Only.refl [w.heap.size + 1] v1).drew) (fun hHeld => ?_); generalize v1.drew = wd2 at *
  refine tk 0 ?_; refine tk 1 ?_ (hy := by (intro w hSw; (try dsimp only at hSw); have HMw := HMB.out.only hSw (by simp); obtain ⟨-, m1, -⟩ := cells13 HMw; clear HMw; go_simp; try with_reducible rfl)); refine tk 2 ?_; refine tk 4 ?_
  refine tk 5 ?_; refine tk 6 ?_; refine tk 7 ?_
  refine tk 8 ?_ (hy := by (intro w hSw; (try dsimp only at hSw); have HMw := HMB.out.only hSw (by simp); obtain ⟨-, -, -, -, -, -, -, -, -, -, -, m11, -⟩ := cells13 HMw; clear HMw; go_simp; try with_reducible rfl))
  refine wpAnyH_ready (rs := [3]) (by kernel_rfl) (by simp) ?_; refine (AllReadyH.cons rfl (fun K hK => ?_) AllReadyH.nil); go_simp
  (go_at_call 67; refine (KN.out _).mono ?_; rintro e2 w3 ⟨rfl, ho⟩; replace HRB := hide (HRB.out.only ho (by simp)))
  refine hK.out _ _ (by first | exact hHeld.trans ho | exact hHeld.trans (ho.mono (by simp))) (fun hN => ?_); clear hK K ho hHeld; have hHeld := hN; clear hN; (try simp only [zsa, zsb, zsc, Act.put, zsd, zse, zsf])
  refine wpAnyH_ready (rs := [9]) (by kernel_rfl) (by simp) ?_; refine (AllReadyH.cons rfl (fun K hK => ?_) AllReadyH.nil); go_simp
  (go_at_call 68; refine (KS.out _).mono ?_; rintro e2 w9 ⟨rfl, ho⟩; replace HRB := hide (HRB.out.only ho (by simp)))
  refine hK.out _ _ (by first | exact hHeld.trans ho | exact hHeld.trans (ho.mono (by simp))) (fun hN => ?_); clear hK K ho hHeld; have hHeld := hN; clear hN; (try simp only [zsa, zsb, zsc, Act.put, zsd, zse, zsf])
  refine wpAnyH_ready (rs := [10]) (by kernel_rfl) (by simp) ?_; refine (AllReadyH.cons rfl (fun K hK => ?_) AllReadyH.nil); go_simp; refine hK.out _ _ (by exact hHeld.alloc _) (fun hN => ?_); clear hK K hHeld; have hHeld := hN
  clear hN; (try simp only [zsa, zsb, zsc, Act.put, zsd, zse, zsf]); have HSB := hide (Blk.new w9 9 #[.string nb, .string sx]); replace HRB := hide (HRB.out.alloc (.cells #[.string nb, .string sx] 9))
  obtain ⟨sg, hsg⟩ : ∃ g, g = w9.heap.size := ⟨_, rfl⟩; rw [← hsg] at HSB ⊢; generalize (w9.alloc (.cells #[.string nb, .string sx] 9)) = w10 at *; clear hsg
  refine wpAnyH_ready (rs := [11]) (by kernel_rfl) (by simp) ?_; refine (AllReadyH.cons rfl (fun K hK => ?_) AllReadyH.nil); go_simp
  (have s0 := HSB.out.cell 0; have s1 := HSB.out.cell 1; simp at s0 s1; go_at_call 47; refine (With_3 w10 0 s 0 sg 0 2 nb sx (by omega) s0 s1).mono ?_; rintro e2 w11 ⟨rfl, ho⟩; replace HRB := hide (HRB.out.only ho (by simp)); clear s0 s1)
  refine hK.out _ _ (by first | exact hHeld.trans ho | exact hHeld.trans (ho.mono (by simp))) (fun hN => ?_); clear hK K ho hHeld; have hHeld := hN; clear hN; (try simp only [zsa, zsb, zsc, Act.put, zsd, zse, zsf])
  refine wpAnyH_ready (rs := [12]) (by kernel_rfl) (by simp) ?_; refine (AllReadyH.cons rfl (fun K hK => ?_) AllReadyH.nil); rw [if_pos (by rfl)]
  refine wp_store_mid _ _ _ rfl _ _ #[.int .i64 3, .int .u32 0, .int .u32 (s : Nat), .int .u64 0, .string ⟨#[]⟩, .string ⟨#[]⟩, .string ⟨#[]⟩, .string ⟨#[]⟩, .string nb, .string sx, .string ⟨#[]⟩, .string ⟨#[]⟩, .string ⟨#[]⟩] rfl rfl (blk_there HRB.out _ rfl) (by kernel_rfl) (by simp [Value.oneCell']) ?_
  replace HRB := hide (show Blk (w11.setCells (w.heap.size + 1) 0 [.int .i64 3, .int .u32 0, .int .u32 (s : Nat), .int .u64 0, .string ⟨#[]⟩, .string ⟨#[]⟩, .string ⟨#[]⟩, .string ⟨#[]⟩, .string nb, .string sx, .string ⟨#[]⟩, .string ⟨#[]⟩, .string ⟨#[]⟩]) _ 25 #[.int .i64 3, .int .u32 0, .int .u32 (s : Nat), .int .u64 0, .string ⟨#[]⟩, .string ⟨#[]⟩, .string ⟨#[]⟩, .string ⟨#[]⟩, .string nb, .string sx, .string ⟨#[]⟩, .string ⟨#[]⟩, .string ⟨#[]⟩] from blk_stored HRB.out [.int .i64 3, .int .u32 0, .int .u32 (s : Nat), .int .u64 0, .string ⟨#[]⟩, .string ⟨#[]⟩, .string ⟨#[]⟩, .string ⟨#[]⟩, .string nb, .string sx, .string ⟨#[]⟩, .string ⟨#[]⟩, .string ⟨#[]⟩] rfl)
  refine hK.out _ _ (by exact Only.setCells (.inl (by simp)) 0 [.int .i64 3, .int .u32 0, .int .u32 (s : Nat), .int .u64 0, .string ⟨#[]⟩, .string ⟨#[]⟩, .string ⟨#[]⟩, .string ⟨#[]⟩, .string nb, .string sx, .string ⟨#[]⟩, .string ⟨#[]⟩, .string ⟨#[]⟩] hHeld) (fun hN => ?_)
  clear hK K hHeld; have hHeld := hN; clear hN; (try simp only [zsa, zsb, zsc, Act.put, zsd, zse, zsf]); refine wpAnyH_done (by kernel_rfl) ?_ _
  (repeat go_step)
  refine bodyPost_ret (results_cell_row rfl _ _ (w.heap.size + 1) 25 _ (0, 0) _ rfl HRB.out Tryz.underlying25 rfl (by kernel_rfl)) rfl ?_
  exact ⟨rfl, ((HO.out.mono (S' := [w.heap.size + 1]) (by simp)).trans hHeld).mono (by intro x hx; right; simp at hx; omega)⟩
end
section
open Go.RowKit Go.Deep

theorem jar_tn {p : ByteArray} (hk : kindT p = 5) (hs : p.size ≤ 200) : Tn 240 (jarT p) :=
  (tn_two 7 (.inr (.inl rfl)) (show Tn 13 ⟨#[120, 54, 51, 54, 102, 54, 102, 54, 98, 54, 57, 54, 53]⟩ from ⟨by kernel_rfl, Nat.le_refl _⟩) (ms_kind (by omega) hs) (by omega)).mono (by omega)
theorem okref_is {m : Mg} {p c : ByteArray} (h : okRef m p c = true) : startsM m = true ∧ kindT p = 5 ∧ kindT c ≠ 0 := by
  unfold okRef at h
  rw [Bool.and_eq_true, Bool.and_eq_true, decide_eq_true_eq, decide_eq_true_eq] at h
  exact h
theorem ref_num (n : Nat) (hn : n < 18446744073709551616) : parseV (numT n) = some (3, n, [], []) := make_read hn (tn_num n hn).ne
section
variable {m : Mg} {p c o : ByteArray} {n : Nat}
theorem sealJ_tn (h : okRef m p c = true) (hs : sizesM m ≤ 3000) (hp : p.size ≤ 200) (hc : c.size ≤ 200) (hn : n < 18446744073709551616) : Tn 3467 (sealJ n p c m.x11) := by
  obtain ⟨h1, h2, h3⟩ := okref_is h
  have hx : m.x11.size ≤ 3000 := by unfold sizesM at hs; omega
  exact (tn_seal n hn (jar_tn h2 hp) (ms_kind h3 hc) ((ms_fit_is (starts_fits h1).1).mono hx) (by omega)).mono (by omega)
theorem ref_right (h : okRef m p c = true) (hs : sizesM m ≤ 3000) (hp : p.size ≤ 200) (hc : c.size ≤ 200) (hn : n < 18446744073709551616) : rightM (refM m.s (numT n) (sealJ n p c m.x11)) = true := by
  have f1 := ms_fit (tn_num n hn) (by omega)
  have f2 := ms_fit (sealJ_tn h hs hp hc hn) (by omega)
  unfold rightM textsM onlyM refM
  simp [f1, f2, eqM_iff]
theorem refuse_fine (h : okRef m p c = true) (hs : sizesM m ≤ 3000) (hp : p.size ≤ 200) (hc : c.size ≤ 200) (hn : n < 18446744073709551616) : refuseV m p c n = (0, refM m.s (numT n) (sealJ n p c m.x11)) := by
  unfold refuseV
  rw [if_pos h, if_pos (ref_right h hs hp hc hn)]
theorem accept_ref (h : okRef m p c = true) (hs : sizesM m ≤ 3000) (hp : p.size ≤ 200) (hc : c.size ≤ 200) (hn : n < 18446744073709551616) (v : ByteArray) : acceptV (refM m.s (numT n) (sealJ n p c m.x11)) p v = if m.x11 = v then (c, 0) else (ByteArray.empty, 8) := by
  obtain ⟨h1, h2, h3⟩ := okref_is h
  have e8 : kindT (numT n) = 3 := by unfold kindT; rw [ref_num n hn]
  have ev : valT (numT n) = (n, true) := by unfold valT; rw [ref_num n hn]; rfl
  have eo : openT (sealJ n p c m.x11) (jarT p) n v = if m.x11 = v then (c, 0) else (ByteArray.empty, 8) := by
    have hq : parseV (sealJ n p c m.x11) = some (10, n, [], [jarT p, c, m.x11]) := make_read hn (sealJ_tn h hs hp hc hn).ne
    unfold openT
    rw [hq]
    show (if (10 : Int) ≠ 10 then _ else if jarT p = jarT p ∧ n = n ∧ m.x11 = v then (c, (0 : Int)) else (ByteArray.empty, 8)) = _
    rw [if_neg (fun h => h rfl)]
    by_cases hv : m.x11 = v
    · rw [if_pos ⟨rfl, rfl, hv⟩, if_pos hv]
    · rw [if_neg (fun h => hv h.2.2), if_neg hv]
  unfold acceptV
  rw [if_neg (by
    rintro (hh | hh | hh | hh)
    · exact hh rfl
    · rw [ref_right h hs hp hc hn] at hh; cases hh
    · exact hh e8
    · exact hh h2)]
  show (if (openT (sealJ n p c m.x11) (jarT p) (valT (numT n)).1 v).2 ≠ 0 then _ else ((openT (sealJ n p c m.x11) (jarT p) (valT (numT n)).1 v).1, (0 : Int))) = _
  rw [ev]
  show (if (openT (sealJ n p c m.x11) (jarT p) n v).2 ≠ 0 then _ else ((openT (sealJ n p c m.x11) (jarT p) n v).1, (0 : Int))) = _
  rw [eo]
  by_cases hv : m.x11 = v
  · rw [if_pos hv]; rfl
  · rw [if_neg hv]; rfl
end
end
end Go.Proofs.YtfipdjlalfpbnaaGreatDoor

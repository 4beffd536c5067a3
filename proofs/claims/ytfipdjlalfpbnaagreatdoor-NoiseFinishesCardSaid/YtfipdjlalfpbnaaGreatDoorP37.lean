/-
  Walks and plain words (texts Nh6, Na0). No condition beyond those that each theorem states.
-/
import Derived.Test.YtfipdjlalfpbnaaGreatDoorP32
import Derived.Test.YtfipdjlalfpbnaaGreatDoorP35
import Derived.Test.YtfipdjlalfpbnaaGreatDoorP36
namespace Go.Proofs.YtfipdjlalfpbnaaGreatDoor
section
open Go.RowKit Go.Deep

def hrdC (s : Nat) (x4 : ByteArray) (v : Hrd) : Array Value := if v.k = 0 then #[.int .u32 (s : Nat), .string v.p, .int .u64 (v.n : Nat), .string x4, .string v.c, .string v.h] else #[.int .u32 0, .string ⟨#[]⟩, .int .u64 0, .string ⟨#[]⟩, .string ⟨#[]⟩, .string ⟨#[]⟩]
theorem hea_no {k : Int} {s : Nat} {x4 : ByteArray} {w w' : World} {e : Ending} (hk : k ≠ 0) (h : HeaPost k #[.int .u32 0, .string ⟨#[]⟩, .int .u64 0, .string ⟨#[]⟩, .string ⟨#[]⟩, .string ⟨#[]⟩] w e w') : HeaPost (noHrd k).k (hrdC s x4 (noHrd k)) w e w' := by
  unfold hrdC
  rw [if_neg (show (noHrd k).k ≠ 0 from hk)]
  exact h
theorem hea_yes {s n : Nat} {x4 p c h : ByteArray} {w w' : World} {e : Ending} (hh : HeaPost 0 #[.int .u32 (s : Nat), .string p, .int .u64 (n : Nat), .string x4, .string c, .string h] w e w') : HeaPost (Hrd.mk 0 p n c h).k (hrdC s x4 (Hrd.mk 0 p n c h)) w e w' := by
  unfold hrdC
  rw [if_pos rfl]
  exact hh
theorem Hear_any (w : World) (sc : ByteArray) (k : Int) (sn r cc : Nat) (x4 x5 x6 x7 x8 x9 x10 x11 x12 : ByteArray) (hsc : sc.size ≤ maxLen) (hF : (Mg.mk k sn r cc x4 x5 x6 x7 x8 x9 x10 x11 x12).Fine) (htab : Tab w) : Calls Tryz.prog 41 #[.string sc, .agg #[.int .i64 k, .int .u32 (sn : Nat), .int .u32 (r : Nat), .int .u64 (cc : Nat), .string x4, .string x5, .string x6, .string x7, .string x8, .string x9, .string x10, .string x11, .string x12]] w (HeaPost (hearV sc (Mg.mk k sn r cc x4 x5 x6 x7 x8 x9 x10 x11 x12)).k (hrdC sn x4 (hearV sc (Mg.mk k sn r cc x4 x5 x6 x7 x8 x9 x10 x11 x12))) w) := by
  obtain ⟨pr, e_pr⟩ : ∃ x, pubT sc = x := ⟨_, rfl⟩
  obtain ⟨cA, e_cA⟩ : ∃ x, begC x4 = x := ⟨_, rfl⟩
  obtain ⟨hA, e_hA⟩ : ∃ x, begH pr x4 = x := ⟨_, rfl⟩
  obtain ⟨uA, e_uA⟩ : ∃ x, agreeT sc x4 = x := ⟨_, rfl⟩
  obtain ⟨kA, e_kA⟩ : ∃ x, kdfT 2 cA uA = x := ⟨_, rfl⟩
  obtain ⟨cB, e_cB⟩ : ∃ x, kdfT 1 cA uA = x := ⟨_, rfl⟩
  obtain ⟨⟨p, pc⟩, hp⟩ : ∃ z, openT x5 kA 0 hA = z := ⟨_, rfl⟩
  obtain ⟨hB, e_hB⟩ : ∃ x, hashT hA x5 = x := ⟨_, rfl⟩
  obtain ⟨uB, e_uB⟩ : ∃ x, agreeT sc p = x := ⟨_, rfl⟩
  obtain ⟨kB, e_kB⟩ : ∃ x, kdfT 2 cB uB = x := ⟨_, rfl⟩
  obtain ⟨cC, e_cC⟩ : ∃ x, kdfT 1 cB uB = x := ⟨_, rfl⟩
  obtain ⟨⟨q, qc⟩, hq⟩ : ∃ z, openT x6 kB 0 hB = z := ⟨_, rfl⟩
  obtain ⟨hC, e_hC⟩ : ∃ x, hashT hB x6 = x := ⟨_, rfl⟩
  have hv : hearV sc (Mg.mk k sn r cc x4 x5 x6 x7 x8 x9 x10 x11 x12) = if termsB [sc] = false ∨ rightM (Mg.mk k sn r cc x4 x5 x6 x7 x8 x9 x10 x11 x12) = false ∨ k ≠ 1 ∨ pubsB [x4] = false then noHrd 3 else if madeB [cB, hA, kA] = false then noHrd 5 else if pc ≠ 0 then noHrd 8 else if pubsB [p] = false then noHrd 3 else if madeB [cC, hB, kB] = false then noHrd 5 else if qc ≠ 0 then noHrd 8 else if kindT q ≠ 3 then noHrd 3 else if madeB [hC] = false then noHrd 5 else ⟨0, p, (valT q).1, cC, hC⟩ := by
    unfold hearV
    simp only [e_pr, e_cA, e_hA, e_uA, e_kA, e_cB, e_hB, e_uB, e_kB, e_cC, e_hC, hp, hq]
  rw [hv]
  clear hv
  by_cases hg : termsB [sc] = false ∨ rightM (Mg.mk k sn r cc x4 x5 x6 x7 x8 x9 x10 x11 x12) = false ∨ k ≠ 1 ∨ pubsB [x4] = false
  · rw [if_pos hg]
    cases hb : termsB [sc] with
    | false => exact (Hear_f1 w sc k sn r cc x4 x5 x6 x7 x8 x9 x10 x11 x12 hsc hF hb).mono fun e w' h => hea_no (by decide) h
    | true =>
      cases hr : rightM (Mg.mk k sn r cc x4 x5 x6 x7 x8 x9 x10 x11 x12) with
      | false => exact (Hear_f2 w sc k sn r cc x4 x5 x6 x7 x8 x9 x10 x11 x12 hsc hF hb hr).mono fun e w' h => hea_no (by decide) h
      | true =>
        by_cases hk : k = 1
        · have hpb : pubsB [x4] = false := by
            rcases hg with h1 | h1 | h1 | h1
            · rw [hb] at h1; cases h1
            · rw [hr] at h1; cases h1
            · exact absurd hk h1
            · exact h1
          exact (Hear_f4 w sc k sn r cc x4 x5 x6 x7 x8 x9 x10 x11 x12 hsc hF hb hr hk hpb).mono fun e w' h => hea_no (by decide) h
        · exact (Hear_f3 w sc k sn r cc x4 x5 x6 x7 x8 x9 x10 x11 x12 hsc hF hb hr hk).mono fun e w' h => hea_no (by decide) h
  · rw [if_neg hg]
    have hb : termsB [sc] = true := by cases h1 : termsB [sc]; exact absurd (.inl h1) hg; rfl
    have hr : rightM (Mg.mk k sn r cc x4 x5 x6 x7 x8 x9 x10 x11 x12) = true := by cases h1 : rightM (Mg.mk k sn r cc x4 x5 x6 x7 x8 x9 x10 x11 x12); exact absurd (.inr (.inl h1)) hg; rfl
    have hk : k = 1 := Decidable.byContradiction fun h1 => hg (.inr (.inr (.inl h1)))
    have hpb : pubsB [x4] = true := by cases h1 : pubsB [x4]; exact absurd (.inr (.inr (.inr h1))) hg; rfl
    refine Hear_walk w sc k sn r cc x4 x5 x6 x7 x8 x9 x10 x11 x12 hsc hF hb hr hk hpb htab p pc q qc pr cA hA uA kA cB hB uB kB cC hC e_pr e_cA e_hA e_uA e_kA e_cB e_hB e_uB e_kB e_cC e_hC hp hq (kindT q) rfl (valT q).1 (valT q).2 rfl _ (fun h1 e w' h => ?_) (fun h1 h2 e w' h => ?_) (fun h1 h2 h3 e w' h => ?_) (fun h1 h2 h3 h4 e w' h => ?_) (fun h1 h2 h3 h4 h5 e w' h => ?_) (fun h1 h2 h3 h4 h5 h6 e w' h => ?_) (fun h1 h2 h3 h4 h5 h6 h7 e w' h => ?_) (fun h1 h2 h3 h4 h5 h6 h7 e w' h => ?_)
    · rw [if_pos h1]; exact hea_no (by decide) h
    · rw [if_neg (by rw [h1]; decide), if_pos h2]; exact hea_no (by decide) h
    · rw [if_neg (by rw [h1]; decide), if_neg (fun h0 => h0 h2), if_pos h3]; exact hea_no (by decide) h
    · rw [if_neg (by rw [h1]; decide), if_neg (fun h0 => h0 h2), if_neg (by rw [h3]; decide), if_pos h4]; exact hea_no (by decide) h
    · rw [if_neg (by rw [h1]; decide), if_neg (fun h0 => h0 h2), if_neg (by rw [h3]; decide), if_neg (by rw [h4]; decide), if_pos h5]; exact hea_no (by decide) h
    · rw [if_neg (by rw [h1]; decide), if_neg (fun h0 => h0 h2), if_neg (by rw [h3]; decide), if_neg (by rw [h4]; decide), if_neg (fun h0 => h0 h5), if_pos h6]; exact hea_no (by decide) h
    · rw [if_neg (by rw [h1]; decide), if_neg (fun h0 => h0 h2), if_neg (by rw [h3]; decide), if_neg (by rw [h4]; decide), if_neg (fun h0 => h0 h5), if_neg (fun h0 => h0 h6), if_pos h7]; exact hea_no (by decide) h
    · rw [if_neg (by rw [h1]; decide), if_neg (fun h0 => h0 h2), if_neg (by rw [h3]; decide), if_neg (by rw [h4]; decide), if_neg (fun h0 => h0 h5), if_neg (fun h0 => h0 h6), if_neg (by rw [h7]; decide)]; exact hea_yes h
end
section
open Go.RowKit Go.Deep

def AnsPost (k : Int) (m ks : Array Value) (w : World) (e : Ending) (w' : World) : Prop := e = .returned (.tuple #[.agg m, .agg ks, .int .i64 k]) ∧ Only [] w w'
set_option maxRecDepth 100000 in
set_option maxHeartbeats 12800000 in
theorem Answer_f1 (w : World) (re st : Nat) (p x4 c h f q : ByteArray) (sd : Nat) (hp : p.size ≤ maxLen) (hx4 : x4.size ≤ maxLen) (hc : c.size ≤ maxLen) (hh : h.size ≤ maxLen) (hf : f.size ≤ maxLen) (hq : q.size ≤ maxLen) (hb : termsB [f, q] = false) : Calls Tryz.prog 44 #[.agg #[.int .u32 (re : Nat), .string p, .int .u64 (st : Nat), .string x4, .string c, .string h], .string f, .string q, .int .u32 sd] w (AnsPost 3 #[.int .i64 0, .int .u32 0, .int .u32 0, .int .u64 0, .string ⟨#[]⟩, .string ⟨#[]⟩, .string ⟨#[]⟩, .string ⟨#[]⟩, .string ⟨#[]⟩, .string ⟨#[]⟩, .string ⟨#[]⟩, .string ⟨#[]⟩, .string ⟨#[]⟩] #[.string ⟨#[]⟩, .string ⟨#[]⟩] w) := by
  have KT := hide (fun W G hG => terms_new2 W G hG f q hf hq)
  have KP := hide (fun W G hG => pubs_new2 W G hG p x4 hp hx4)
  have KT2 := hide (fun W G hG => terms_new2 W G hG c h hc hh)
  unfold RetB at KT KP KT2
  have HDB := hide (((Blk.new w 84 #[.int .u32 (re : Nat), .string p, .int .u64 (st : Nat), .string x4, .string c, .string h]).alloc (.cells #[.int .i64 0, .int .u32 0, .int .u32 0, .int .u64 0, .string ⟨#[]⟩, .string ⟨#[]⟩, .string ⟨#[]⟩, .string ⟨#[]⟩, .string ⟨#[]⟩, .string ⟨#[]⟩, .string ⟨#[]⟩, .string ⟨#[]⟩, .string ⟨#[]⟩] 25)).alloc (.cells #[.string ⟨#[]⟩, .string ⟨#[]⟩] 43))
  have HR1 := hide ((Blk.new (w.alloc (.cells #[.int .u32 (re : Nat), .string p, .int .u64 (st : Nat), .string x4, .string c, .string h] 84)) 25 #[.int .i64 0, .int .u32 0, .int .u32 0, .int .u64 0, .string ⟨#[]⟩, .string ⟨#[]⟩, .string ⟨#[]⟩, .string ⟨#[]⟩, .string ⟨#[]⟩, .string ⟨#[]⟩, .string ⟨#[]⟩, .string ⟨#[]⟩, .string ⟨#[]⟩]).alloc (.cells #[.string ⟨#[]⟩, .string ⟨#[]⟩] 43))
  have HR2 := hide (Blk.new ((w.alloc (.cells #[.int .u32 (re : Nat), .string p, .int .u64 (st : Nat), .string x4, .string c, .string h] 84)).alloc (.cells #[.int .i64 0, .int .u32 0, .int .u32 0, .int .u64 0, .string ⟨#[]⟩, .string ⟨#[]⟩, .string ⟨#[]⟩, .string ⟨#[]⟩, .string ⟨#[]⟩, .string ⟨#[]⟩, .string ⟨#[]⟩, .string ⟨#[]⟩, .string ⟨#[]⟩] 25)) 43 #[.string ⟨#[]⟩, .string ⟨#[]⟩])
  rw [World.size_alloc] at HR1
  rw [World.size_alloc, World.size_alloc] at HR2
  have HO := hide ((((Only.refl [] w).alloc (.cells #[.int .u32 (re : Nat), .string p, .int .u64 (st : Nat), .string x4, .string c, .string h] 84)).alloc (.cells #[.int .i64 0, .int .u32 0, .int .u32 0, .int .u64 0, .string ⟨#[]⟩, .string ⟨#[]⟩, .string ⟨#[]⟩, .string ⟨#[]⟩, .string ⟨#[]⟩, .string ⟨#[]⟩, .string ⟨#[]⟩, .string ⟨#[]⟩, .string ⟨#[]⟩] 25)).alloc (.cells #[.string ⟨#[]⟩, .string ⟨#[]⟩] 43))
  rw [hb] at KT
  clear hb KP KT2
  clear hp hx4 hc hh hf hq
  go_enter Tryz.func44, Tryz.ntmps44
  go_upto_region 1 with fail
  generalize (((w.alloc (.cells #[.int .u32 (re : Nat), .string p, .int .u64 (st : Nat), .string x4, .string c, .string h] 84)).alloc (.cells #[.int .i64 0, .int .u32 0, .int .u32 0, .int .u64 0, .string ⟨#[]⟩, .string ⟨#[]⟩, .string ⟨#[]⟩, .string ⟨#[]⟩, .string ⟨#[]⟩, .string ⟨#[]⟩, .string ⟨#[]⟩, .string ⟨#[]⟩, .string ⟨#[]⟩] 25)).alloc (.cells #[.string ⟨#[]⟩, .string ⟨#[]⟩] 43)) = v0 at *
  obtain ⟨d0, d1, d2, d3, d4, d5⟩ := cells6 HDB.out
  go_upto_region 2 with (first
    | (go_at_call 88; (with_reducible refine (KT.out _ _ rfl).mono ?_); rintro e2 wt ⟨rfl, ho⟩; replace HDB := hon HDB ho; replace HR1 := hon HR1 ho; replace HR2 := hon HR2 ho; replace HO := htr HO ho; clear ho; (first | (clear d0 d1 d2 d3 d4 d5) | skip); obtain ⟨d0, d1, d2, d3, d4, d5⟩ := cells6 HDB.out))
  clear d0 d1 d2 d3 d4 d5
  (iterate 7 go_step)
  refine wpList_store_mid rfl _ _ _ rfl _ 0 #[.int .i64 0, .int .u32 0, .int .u32 0, .int .u64 0, .string ⟨#[]⟩, .string ⟨#[]⟩, .string ⟨#[]⟩, .string ⟨#[]⟩, .string ⟨#[]⟩, .string ⟨#[]⟩, .string ⟨#[]⟩, .string ⟨#[]⟩, .string ⟨#[]⟩] rfl rfl (blk_there HR1.out _ rfl) (by kernel_rfl) (by simp [Value.oneCell']) ?_
  replace HR1 := hide (show Blk (wt.setCells (w.heap.size + 1) 0 [.int .i64 0, .int .u32 0, .int .u32 0, .int .u64 0, .string ⟨#[]⟩, .string ⟨#[]⟩, .string ⟨#[]⟩, .string ⟨#[]⟩, .string ⟨#[]⟩, .string ⟨#[]⟩, .string ⟨#[]⟩, .string ⟨#[]⟩, .string ⟨#[]⟩]) _ _ #[.int .i64 0, .int .u32 0, .int .u32 0, .int .u64 0, .string ⟨#[]⟩, .string ⟨#[]⟩, .string ⟨#[]⟩, .string ⟨#[]⟩, .string ⟨#[]⟩, .string ⟨#[]⟩, .string ⟨#[]⟩, .string ⟨#[]⟩, .string ⟨#[]⟩] from blk_stored HR1.out [.int .i64 0, .int .u32 0, .int .u32 0, .int .u64 0, .string ⟨#[]⟩, .string ⟨#[]⟩, .string ⟨#[]⟩, .string ⟨#[]⟩, .string ⟨#[]⟩, .string ⟨#[]⟩, .string ⟨#[]⟩, .string ⟨#[]⟩, .string ⟨#[]⟩] rfl)
  replace HR2 := hide (blk_far HR2.out (Nat.ne_of_lt (Nat.lt_succ_self _)) [.int .i64 0, .int .u32 0, .int .u32 0, .int .u64 0, .string ⟨#[]⟩, .string ⟨#[]⟩, .string ⟨#[]⟩, .string ⟨#[]⟩, .string ⟨#[]⟩, .string ⟨#[]⟩, .string ⟨#[]⟩, .string ⟨#[]⟩, .string ⟨#[]⟩])
  replace HO := hide (only_stored HO.out (Nat.le_succ _) [.int .i64 0, .int .u32 0, .int .u32 0, .int .u64 0, .string ⟨#[]⟩, .string ⟨#[]⟩, .string ⟨#[]⟩, .string ⟨#[]⟩, .string ⟨#[]⟩, .string ⟨#[]⟩, .string ⟨#[]⟩, .string ⟨#[]⟩, .string ⟨#[]⟩])
  generalize (wt.setCells (w.heap.size + 1) 0 [.int .i64 0, .int .u32 0, .int .u32 0, .int .u64 0, .string ⟨#[]⟩, .string ⟨#[]⟩, .string ⟨#[]⟩, .string ⟨#[]⟩, .string ⟨#[]⟩, .string ⟨#[]⟩, .string ⟨#[]⟩, .string ⟨#[]⟩, .string ⟨#[]⟩]) = wy at *
  refine wpList_store_mid rfl _ _ _ rfl _ 0 #[.string ⟨#[]⟩, .string ⟨#[]⟩] rfl rfl (blk_there HR2.out _ rfl) (by kernel_rfl) (by simp [Value.oneCell']) ?_
  replace HR2 := hide (show Blk (wy.setCells (w.heap.size + 1 + 1) 0 [.string ⟨#[]⟩, .string ⟨#[]⟩]) _ _ #[.string ⟨#[]⟩, .string ⟨#[]⟩] from blk_stored HR2.out [.string ⟨#[]⟩, .string ⟨#[]⟩] rfl)
  replace HR1 := hide (blk_far HR1.out (Nat.ne_of_gt (Nat.lt_succ_self _)) [.string ⟨#[]⟩, .string ⟨#[]⟩])
  replace HO := hide (only_stored HO.out (Nat.le_succ_of_le (Nat.le_succ _)) [.string ⟨#[]⟩, .string ⟨#[]⟩])
  generalize (wy.setCells (w.heap.size + 1 + 1) 0 [.string ⟨#[]⟩, .string ⟨#[]⟩]) = wz at *
  (iterate 8 go_step)
  refine bodyPost_ret (results_two_cells rfl _ _ (w.heap.size + 1) (w.heap.size + 1 + 1) 25 43 _ _ (0, 0) (0, 0) _ _ rfl rfl HR1.out HR2.out Tryz.underlying25 rfl (by kernel_rfl) Tryz.underlying43 rfl (by kernel_rfl)) rfl ?_
  exact ⟨rfl, HO.out⟩
set_option maxRecDepth 100000 in
set_option maxHeartbeats 12800000 in
theorem Answer_f2 (w : World) (re st : Nat) (p x4 c h f q : ByteArray) (sd : Nat) (hp : p.size ≤ maxLen) (hx4 : x4.size ≤ maxLen) (hc : c.size ≤ maxLen) (hh : h.size ≤ maxLen) (hf : f.size ≤ maxLen) (hq : q.size ≤ maxLen) (hb : termsB [f, q] = true) (hb2 : pubsB [p, x4] = false) : Calls Tryz.prog 44 #[.agg #[.int .u32 (re : Nat), .string p, .int .u64 (st : Nat), .string x4, .string c, .string h], .string f, .string q, .int .u32 sd] w (AnsPost 3 #[.int .i64 0, .int .u32 0, .int .u32 0, .int .u64 0, .string ⟨#[]⟩, .string ⟨#[]⟩, .string ⟨#[]⟩, .string ⟨#[]⟩, .string ⟨#[]⟩, .string ⟨#[]⟩, .string ⟨#[]⟩, .string ⟨#[]⟩, .string ⟨#[]⟩] #[.string ⟨#[]⟩, .string ⟨#[]⟩] w) := by
  have KT := hide (fun W G hG => terms_new2 W G hG f q hf hq)
  have KP := hide (fun W G hG => pubs_new2 W G hG p x4 hp hx4)
  have KT2 := hide (fun W G hG => terms_new2 W G hG c h hc hh)
  unfold RetB at KT KP KT2
  have HDB := hide (((Blk.new w 84 #[.int .u32 (re : Nat), .string p, .int .u64 (st : Nat), .string x4, .string c, .string h]).alloc (.cells #[.int .i64 0, .int .u32 0, .int .u32 0, .int .u64 0, .string ⟨#[]⟩, .string ⟨#[]⟩, .string ⟨#[]⟩, .string ⟨#[]⟩, .string ⟨#[]⟩, .string ⟨#[]⟩, .string ⟨#[]⟩, .string ⟨#[]⟩, .string ⟨#[]⟩] 25)).alloc (.cells #[.string ⟨#[]⟩, .string ⟨#[]⟩] 43))
  have HR1 := hide ((Blk.new (w.alloc (.cells #[.int .u32 (re : Nat), .string p, .int .u64 (st : Nat), .string x4, .string c, .string h] 84)) 25 #[.int .i64 0, .int .u32 0, .int .u32 0, .int .u64 0, .string ⟨#[]⟩, .string ⟨#[]⟩, .string ⟨#[]⟩, .string ⟨#[]⟩, .string ⟨#[]⟩, .string ⟨#[]⟩, .string ⟨#[]⟩, .string ⟨#[]⟩, .string ⟨#[]⟩]).alloc (.cells #[.string ⟨#[]⟩, .string ⟨#[]⟩] 43))
  have HR2 := hide (Blk.new ((w.alloc (.cells #[.int .u32 (re : Nat), .string p, .int .u64 (st : Nat), .string x4, .string c, .string h] 84)).alloc (.cells #[.int .i64 0, .int .u32 0, .int .u32 0, .int .u64 0, .string ⟨#[]⟩, .string ⟨#[]⟩, .string ⟨#[]⟩, .string ⟨#[]⟩, .string ⟨#[]⟩, .string ⟨#[]⟩, .string ⟨#[]⟩, .string ⟨#[]⟩, .string ⟨#[]⟩] 25)) 43 #[.string ⟨#[]⟩, .string ⟨#[]⟩])
  rw [World.size_alloc] at HR1
  rw [World.size_alloc, World.size_alloc] at HR2
  have HO := hide ((((Only.refl [] w).alloc (.cells #[.int .u32 (re : Nat), .string p, .int .u64 (st : Nat), .string x4, .string c, .string h] 84)).alloc (.cells #[.int .i64 0, .int .u32 0, .int .u32 0, .int .u64 0, .string ⟨#[]⟩, .string ⟨#[]⟩, .string ⟨#[]⟩, .string ⟨#[]⟩, .string ⟨#[]⟩, .string ⟨#[]⟩, .string ⟨#[]⟩, .string ⟨#[]⟩, .string ⟨#[]⟩] 25)).alloc (.cells #[.string ⟨#[]⟩, .string ⟨#[]⟩] 43))
  rw [hb] at KT
  rw [hb2] at KP
  clear hb hb2 KT2
  clear hp hx4 hc hh hf hq
  go_enter Tryz.func44, Tryz.ntmps44
  go_upto_region 1 with fail
  generalize (((w.alloc (.cells #[.int .u32 (re : Nat), .string p, .int .u64 (st : Nat), .string x4, .string c, .string h] 84)).alloc (.cells #[.int .i64 0, .int .u32 0, .int .u32 0, .int .u64 0, .string ⟨#[]⟩, .string ⟨#[]⟩, .string ⟨#[]⟩, .string ⟨#[]⟩, .string ⟨#[]⟩, .string ⟨#[]⟩, .string ⟨#[]⟩, .string ⟨#[]⟩, .string ⟨#[]⟩] 25)).alloc (.cells #[.string ⟨#[]⟩, .string ⟨#[]⟩] 43)) = v0 at *
  obtain ⟨d0, d1, d2, d3, d4, d5⟩ := cells6 HDB.out
  go_upto_region 2 with (first
    | (go_at_call 88; (with_reducible refine (KT.out _ _ rfl).mono ?_); rintro e2 wt ⟨rfl, ho⟩; replace HDB := hon HDB ho; replace HR1 := hon HR1 ho; replace HR2 := hon HR2 ho; replace HO := htr HO ho; clear ho; (first | (clear d0 d1 d2 d3 d4 d5) | skip); obtain ⟨d0, d1, d2, d3, d4, d5⟩ := cells6 HDB.out)
    | (go_at_call 89; (with_reducible refine (KP.out _ _ rfl).mono ?_); rintro e2 wp ⟨rfl, ho⟩; replace HDB := hon HDB ho; replace HR1 := hon HR1 ho; replace HR2 := hon HR2 ho; replace HO := htr HO ho; clear ho; (first | (clear d0 d1 d2 d3 d4 d5) | skip); obtain ⟨d0, d1, d2, d3, d4, d5⟩ := cells6 HDB.out))
  clear d0 d1 d2 d3 d4 d5
  (iterate 7 go_step)
  refine wpList_store_mid rfl _ _ _ rfl _ 0 #[.int .i64 0, .int .u32 0, .int .u32 0, .int .u64 0, .string ⟨#[]⟩, .string ⟨#[]⟩, .string ⟨#[]⟩, .string ⟨#[]⟩, .string ⟨#[]⟩, .string ⟨#[]⟩, .string ⟨#[]⟩, .string ⟨#[]⟩, .string ⟨#[]⟩] rfl rfl (blk_there HR1.out _ rfl) (by kernel_rfl) (by simp [Value.oneCell']) ?_
  replace HR1 := hide (show Blk (wp.setCells (w.heap.size + 1) 0 [.int .i64 0, .int .u32 0, .int .u32 0, .int .u64 0, .string ⟨#[]⟩, .string ⟨#[]⟩, .string ⟨#[]⟩, .string ⟨#[]⟩, .string ⟨#[]⟩, .string ⟨#[]⟩, .string ⟨#[]⟩, .string ⟨#[]⟩, .string ⟨#[]⟩]) _ _ #[.int .i64 0, .int .u32 0, .int .u32 0, .int .u64 0, .string ⟨#[]⟩, .string ⟨#[]⟩, .string ⟨#[]⟩, .string ⟨#[]⟩, .string ⟨#[]⟩, .string ⟨#[]⟩, .string ⟨#[]⟩, .string ⟨#[]⟩, .string ⟨#[]⟩] from blk_stored HR1.out [.int .i64 0, .int .u32 0, .int .u32 0, .int .u64 0, .string ⟨#[]⟩, .string ⟨#[]⟩, .string ⟨#[]⟩, .string ⟨#[]⟩, .string ⟨#[]⟩, .string ⟨#[]⟩, .string ⟨#[]⟩, .string ⟨#[]⟩, .string ⟨#[]⟩] rfl)
  replace HR2 := hide (blk_far HR2.out (Nat.ne_of_lt (Nat.lt_succ_self _)) [.int .i64 0, .int .u32 0, .int .u32 0, .int .u64 0, .string ⟨#[]⟩, .string ⟨#[]⟩, .string ⟨#[]⟩, .string ⟨#[]⟩, .string ⟨#[]⟩, .string ⟨#[]⟩, .string ⟨#[]⟩, .string ⟨#[]⟩, .string ⟨#[]⟩])
  replace HO := hide (only_stored HO.out (Nat.le_succ _) [.int .i64 0, .int .u32 0, .int .u32 0, .int .u64 0, .string ⟨#[]⟩, .string ⟨#[]⟩, .string ⟨#[]⟩, .string ⟨#[]⟩, .string ⟨#[]⟩, .string ⟨#[]⟩, .string ⟨#[]⟩, .string ⟨#[]⟩, .string ⟨#[]⟩])
  generalize (wp.setCells (w.heap.size + 1) 0 [.int .i64 0, .int .u32 0, .int .u32 0, .int .u64 0, .string ⟨#[]⟩, .string ⟨#[]⟩, .string ⟨#[]⟩, .string ⟨#[]⟩, .string ⟨#[]⟩, .string ⟨#[]⟩, .string ⟨#[]⟩, .string ⟨#[]⟩, .string ⟨#[]⟩]) = wy at *
  refine wpList_store_mid rfl _ _ _ rfl _ 0 #[.string ⟨#[]⟩, .string ⟨#[]⟩] rfl rfl (blk_there HR2.out _ rfl) (by kernel_rfl) (by simp [Value.oneCell']) ?_
  replace HR2 := hide (show Blk (wy.setCells (w.heap.size + 1 + 1) 0 [.string ⟨#[]⟩, .string ⟨#[]⟩]) _ _ #[.string ⟨#[]⟩, .string ⟨#[]⟩] from blk_stored HR2.out [.string ⟨#[]⟩, .string ⟨#[]⟩] rfl)
  replace HR1 := hide (blk_far HR1.out (Nat.ne_of_gt (Nat.lt_succ_self _)) [.string ⟨#[]⟩, .string ⟨#[]⟩])
  replace HO := hide (only_stored HO.out (Nat.le_succ_of_le (Nat.le_succ _)) [.string ⟨#[]⟩, .string ⟨#[]⟩])
  generalize (wy.setCells (w.heap.size + 1 + 1) 0 [.string ⟨#[]⟩, .string ⟨#[]⟩]) = wz at *
  (iterate 8 go_step)
  refine bodyPost_ret (results_two_cells rfl _ _ (w.heap.size + 1) (w.heap.size + 1 + 1) 25 43 _ _ (0, 0) (0, 0) _ _ rfl rfl HR1.out HR2.out Tryz.underlying25 rfl (by kernel_rfl) Tryz.underlying43 rfl (by kernel_rfl)) rfl ?_
  exact ⟨rfl, HO.out⟩
set_option maxRecDepth 100000 in
set_option maxHeartbeats 12800000 in
theorem Answer_f3 (w : World) (re st : Nat) (p x4 c h f q : ByteArray) (sd : Nat) (hp : p.size ≤ maxLen) (hx4 : x4.size ≤ maxLen) (hc : c.size ≤ maxLen) (hh : h.size ≤ maxLen) (hf : f.size ≤ maxLen) (hq : q.size ≤ maxLen) (hb : termsB [f, q] = true) (hb2 : pubsB [p, x4] = true) (hb3 : termsB [c, h] = false) : Calls Tryz.prog 44 #[.agg #[.int .u32 (re : Nat), .string p, .int .u64 (st : Nat), .string x4, .string c, .string h], .string f, .string q, .int .u32 sd] w (AnsPost 3 #[.int .i64 0, .int .u32 0, .int .u32 0, .int .u64 0, .string ⟨#[]⟩, .string ⟨#[]⟩, .string ⟨#[]⟩, .string ⟨#[]⟩, .string ⟨#[]⟩, .string ⟨#[]⟩, .string ⟨#[]⟩, .string ⟨#[]⟩, .string ⟨#[]⟩] #[.string ⟨#[]⟩, .string ⟨#[]⟩] w) := by
  have KT := hide (fun W G hG => terms_new2 W G hG f q hf hq)
  have KP := hide (fun W G hG => pubs_new2 W G hG p x4 hp hx4)
  have KT2 := hide (fun W G hG => terms_new2 W G hG c h hc hh)
  unfold RetB at KT KP KT2
  have HDB := hide (((Blk.new w 84 #[.int .u32 (re : Nat), .string p, .int .u64 (st : Nat), .string x4, .string c, .string h]).alloc (.cells #[.int .i64 0, .int .u32 0, .int .u32 0, .int .u64 0, .string ⟨#[]⟩, .string ⟨#[]⟩, .string ⟨#[]⟩, .string ⟨#[]⟩, .string ⟨#[]⟩, .string ⟨#[]⟩, .string ⟨#[]⟩, .string ⟨#[]⟩, .string ⟨#[]⟩] 25)).alloc (.cells #[.string ⟨#[]⟩, .string ⟨#[]⟩] 43))
  have HR1 := hide ((Blk.new (w.alloc (.cells #[.int .u32 (re : Nat), .string p, .int .u64 (st : Nat), .string x4, .string c, .string h] 84)) 25 #[.int .i64 0, .int .u32 0, .int .u32 0, .int .u64 0, .string ⟨#[]⟩, .string ⟨#[]⟩, .string ⟨#[]⟩, .string ⟨#[]⟩, .string ⟨#[]⟩, .string ⟨#[]⟩, .string ⟨#[]⟩, .string ⟨#[]⟩, .string ⟨#[]⟩]).alloc (.cells #[.string ⟨#[]⟩, .string ⟨#[]⟩] 43))
  have HR2 := hide (Blk.new ((w.alloc (.cells #[.int .u32 (re : Nat), .string p, .int .u64 (st : Nat), .string x4, .string c, .string h] 84)).alloc (.cells #[.int .i64 0, .int .u32 0, .int .u32 0, .int .u64 0, .string ⟨#[]⟩, .string ⟨#[]⟩, .string ⟨#[]⟩, .string ⟨#[]⟩, .string ⟨#[]⟩, .string ⟨#[]⟩, .string ⟨#[]⟩, .string ⟨#[]⟩, .string ⟨#[]⟩] 25)) 43 #[.string ⟨#[]⟩, .string ⟨#[]⟩])
  rw [World.size_alloc] at HR1
  rw [World.size_alloc, World.size_alloc] at HR2
  have HO := hide ((((Only.refl [] w).alloc (.cells #[.int .u32 (re : Nat), .string p, .int .u64 (st : Nat), .string x4, .string c, .string h] 84)).alloc (.cells #[.int .i64 0, .int .u32 0, .int .u32 0, .int .u64 0, .string ⟨#[]⟩, .string ⟨#[]⟩, .string ⟨#[]⟩, .string ⟨#[]⟩, .string ⟨#[]⟩, .string ⟨#[]⟩, .string ⟨#[]⟩, .string ⟨#[]⟩, .string ⟨#[]⟩] 25)).alloc (.cells #[.string ⟨#[]⟩, .string ⟨#[]⟩] 43))
  rw [hb] at KT
  rw [hb2] at KP
  rw [hb3] at KT2
  clear hb hb2 hb3
  clear hp hx4 hc hh hf hq
  go_enter Tryz.func44, Tryz.ntmps44
  go_upto_region 1 with fail
  generalize (((w.alloc (.cells #[.int .u32 (re : Nat), .string p, .int .u64 (st : Nat), .string x4, .string c, .string h] 84)).alloc (.cells #[.int .i64 0, .int .u32 0, .int .u32 0, .int .u64 0, .string ⟨#[]⟩, .string ⟨#[]⟩, .string ⟨#[]⟩, .string ⟨#[]⟩, .string ⟨#[]⟩, .string ⟨#[]⟩, .string ⟨#[]⟩, .string ⟨#[]⟩, .string ⟨#[]⟩] 25)).alloc (.cells #[.string ⟨#[]⟩, .string ⟨#[]⟩] 43)) = v0 at *
  obtain ⟨d0, d1, d2, d3, d4, d5⟩ := cells6 HDB.out
  go_upto_region 2 with (first
    | (go_at_call 88; (with_reducible refine (KT.out _ _ rfl).mono ?_); rintro e2 wt ⟨rfl, ho⟩; replace HDB := hon HDB ho; replace HR1 := hon HR1 ho; replace HR2 := hon HR2 ho; replace HO := htr HO ho; clear ho; (first | (clear d0 d1 d2 d3 d4 d5) | skip); obtain ⟨d0, d1, d2, d3, d4, d5⟩ := cells6 HDB.out)
    | (go_at_call 89; (with_reducible refine (KP.out _ _ rfl).mono ?_); rintro e2 wp ⟨rfl, ho⟩; replace HDB := hon HDB ho; replace HR1 := hon HR1 ho; replace HR2 := hon HR2 ho; replace HO := htr HO ho; clear ho; (first | (clear d0 d1 d2 d3 d4 d5) | skip); obtain ⟨d0, d1, d2, d3, d4, d5⟩ := cells6 HDB.out)
    | (go_at_call 88; (with_reducible refine (KT2.out _ _ rfl).mono ?_); rintro e2 wu ⟨rfl, ho⟩; replace HDB := hon HDB ho; replace HR1 := hon HR1 ho; replace HR2 := hon HR2 ho; replace HO := htr HO ho; clear ho; (first | (clear d0 d1 d2 d3 d4 d5) | skip); obtain ⟨d0, d1, d2, d3, d4, d5⟩ := cells6 HDB.out))
  clear d0 d1 d2 d3 d4 d5
  (iterate 7 go_step)
  refine wpList_store_mid rfl _ _ _ rfl _ 0 #[.int .i64 0, .int .u32 0, .int .u32 0, .int .u64 0, .string ⟨#[]⟩, .string ⟨#[]⟩, .string ⟨#[]⟩, .string ⟨#[]⟩, .string ⟨#[]⟩, .string ⟨#[]⟩, .string ⟨#[]⟩, .string ⟨#[]⟩, .string ⟨#[]⟩] rfl rfl (blk_there HR1.out _ rfl) (by kernel_rfl) (by simp [Value.oneCell']) ?_
  replace HR1 := hide (show Blk (wu.setCells (w.heap.size + 1) 0 [.int .i64 0, .int .u32 0, .int .u32 0, .int .u64 0, .string ⟨#[]⟩, .string ⟨#[]⟩, .string ⟨#[]⟩, .string ⟨#[]⟩, .string ⟨#[]⟩, .string ⟨#[]⟩, .string ⟨#[]⟩, .string ⟨#[]⟩, .string ⟨#[]⟩]) _ _ #[.int .i64 0, .int .u32 0, .int .u32 0, .int .u64 0, .string ⟨#[]⟩, .string ⟨#[]⟩, .string ⟨#[]⟩, .string ⟨#[]⟩, .string ⟨#[]⟩, .string ⟨#[]⟩, .string ⟨#[]⟩, .string ⟨#[]⟩, .string ⟨#[]⟩] from blk_stored HR1.out [.int .i64 0, .int .u32 0, .int .u32 0, .int .u64 0, .string ⟨#[]⟩, .string ⟨#[]⟩, .string ⟨#[]⟩, .string ⟨#[]⟩, .string ⟨#[]⟩, .string ⟨#[]⟩, .string ⟨#[]⟩, .string ⟨#[]⟩, .string ⟨#[]⟩] rfl)
  replace HR2 := hide (blk_far HR2.out (Nat.ne_of_lt (Nat.lt_succ_self _)) [.int .i64 0, .int .u32 0, .int .u32 0, .int .u64 0, .string ⟨#[]⟩, .string ⟨#[]⟩, .string ⟨#[]⟩, .string ⟨#[]⟩, .string ⟨#[]⟩, .string ⟨#[]⟩, .string ⟨#[]⟩, .string ⟨#[]⟩, .string ⟨#[]⟩])
  replace HO := hide (only_stored HO.out (Nat.le_succ _) [.int .i64 0, .int .u32 0, .int .u32 0, .int .u64 0, .string ⟨#[]⟩, .string ⟨#[]⟩, .string ⟨#[]⟩, .string ⟨#[]⟩, .string ⟨#[]⟩, .string ⟨#[]⟩, .string ⟨#[]⟩, .string ⟨#[]⟩, .string ⟨#[]⟩])
  generalize (wu.setCells (w.heap.size + 1) 0 [.int .i64 0, .int .u32 0, .int .u32 0, .int .u64 0, .string ⟨#[]⟩, .string ⟨#[]⟩, .string ⟨#[]⟩, .string ⟨#[]⟩, .string ⟨#[]⟩, .string ⟨#[]⟩, .string ⟨#[]⟩, .string ⟨#[]⟩, .string ⟨#[]⟩]) = wy at *
  refine wpList_store_mid rfl _ _ _ rfl _ 0 #[.string ⟨#[]⟩, .string ⟨#[]⟩] rfl rfl (blk_there HR2.out _ rfl) (by kernel_rfl) (by simp [Value.oneCell']) ?_
  replace HR2 := hide (show Blk (wy.setCells (w.heap.size + 1 + 1) 0 [.string ⟨#[]⟩, .string ⟨#[]⟩]) _ _ #[.string ⟨#[]⟩, .string ⟨#[]⟩] from blk_stored HR2.out [.string ⟨#[]⟩, .string ⟨#[]⟩] rfl)
  replace HR1 := hide (blk_far HR1.out (Nat.ne_of_gt (Nat.lt_succ_self _)) [.string ⟨#[]⟩, .string ⟨#[]⟩])
  replace HO := hide (only_stored HO.out (Nat.le_succ_of_le (Nat.le_succ _)) [.string ⟨#[]⟩, .string ⟨#[]⟩])
  generalize (wy.setCells (w.heap.size + 1 + 1) 0 [.string ⟨#[]⟩, .string ⟨#[]⟩]) = wz at *
  (iterate 8 go_step)
  refine bodyPost_ret (results_two_cells rfl _ _ (w.heap.size + 1) (w.heap.size + 1 + 1) 25 43 _ _ (0, 0) (0, 0) _ _ rfl rfl HR1.out HR2.out Tryz.underlying25 rfl (by kernel_rfl) Tryz.underlying43 rfl (by kernel_rfl)) rfl ?_
  exact ⟨rfl, HO.out⟩
end
end Go.Proofs.YtfipdjlalfpbnaaGreatDoor

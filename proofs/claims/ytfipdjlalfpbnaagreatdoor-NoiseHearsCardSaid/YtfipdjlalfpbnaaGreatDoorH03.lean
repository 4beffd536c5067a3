/-
  Walks and plain words (texts Hv, Nk3, Nq4, Ng0). No condition beyond those that each theorem states.
-/
import Derived.Test.YtfipdjlalfpbnaaGreatDoorP25
import Derived.Test.YtfipdjlalfpbnaaGreatDoorP32
import Derived.Test.YtfipdjlalfpbnaaGreatDoorP37
import Derived.Test.YtfipdjlalfpbnaaGreatDoorP39
import Derived.Test.YtfipdjlalfpbnaaGreatDoorH01
import Derived.Test.YtfipdjlalfpbnaaGreatDoorH02
namespace Go.Proofs.YtfipdjlalfpbnaaGreatDoor
section
open Go.RowKit Go.Deep

def heavyV (m : Mg) (q : Int) : Bool := decide (q < wrap64 (wrap64 (wrap64 (wrap64 (wrap64 (wrap64 (wrap64 (wrap64 ((m.x4.size : Int) + (m.x5.size : Int)) + (m.x6.size : Int)) + (m.x7.size : Int)) + (m.x8.size : Int)) + (m.x9.size : Int)) + (m.x10.size : Int)) + (m.x11.size : Int)) + (m.x12.size : Int)))
set_option maxRecDepth 100000 in
set_option maxHeartbeats 12800000 in
theorem Heavy_any (m : Mg) (q : Int) (w : World) : Calls Tryz.prog 28 #[.agg m.cells, .int .i64 q] w (RetB (heavyV m q) w) := by
  obtain ⟨k, s, r, c, x4, x5, x6, x7, x8, x9, x10, x11, x12⟩ := m
  unfold Mg.cells heavyV RetB
  simp only
  · have HMB := hide (Blk.new w 25 #[.int .i64 k, .int .u32 (s : Nat), .int .u32 (r : Nat), .int .u64 (c : Nat), .string x4, .string x5, .string x6, .string x7, .string x8, .string x9, .string x10, .string x11, .string x12])
    have HO := hide ((Only.refl [] w).alloc (.cells #[.int .i64 k, .int .u32 (s : Nat), .int .u32 (r : Nat), .int .u64 (c : Nat), .string x4, .string x5, .string x6, .string x7, .string x8, .string x9, .string x10, .string x11, .string x12] 25))
    have m0 := HMB.out.cell 0; have m1 := HMB.out.cell 1; have m2 := HMB.out.cell 2; have m3 := HMB.out.cell 3; have m4 := HMB.out.cell 4; have m5 := HMB.out.cell 5; have m6 := HMB.out.cell 6; have m7 := HMB.out.cell 7; have m8 := HMB.out.cell 8; have m9 := HMB.out.cell 9; have m10 := HMB.out.cell 10; have m11 := HMB.out.cell 11; have m12 := HMB.out.cell 12; simp at m0 m1 m2 m3 m4 m5 m6 m7 m8 m9 m10 m11 m12
    go_enter Tryz.func28, Tryz.ntmps28
    go_wp2_with fail
    go_ret
    exact ⟨rfl, HO.out⟩
theorem right_sizes {m : Mg} (h : rightM m = true) : m.x4.size ≤ 65535 ∧ m.x5.size ≤ 65535 ∧ m.x6.size ≤ 65535 ∧ m.x7.size ≤ 65535 ∧ m.x8.size ≤ 65535 ∧ m.x9.size ≤ 65535 ∧ m.x10.size ≤ 65535 ∧ m.x11.size ≤ 65535 ∧ m.x12.size ≤ 65535 := by
  unfold rightM at h
  rw [Bool.and_eq_true, Bool.and_eq_true, decide_eq_true_eq, eqM_iff] at h
  obtain ⟨hk, hf, he⟩ := h
  rw [List.all_eq_true] at hf
  have hz : ∀ p, p ∈ textsM m → p.size ≤ 65535 := by
    intro p hp
    have h1 := hf p hp
    unfold fitW at h1
    rw [Bool.and_eq_true] at h1
    exact of_decide_eq_true h1.1
  have n0 : noT.size ≤ 65535 := by show 0 ≤ 65535; omega
  obtain ⟨k, s, r, c, x4, x5, x6, x7, x8, x9, x10, x11, x12⟩ := m
  unfold textsM at hz
  unfold onlyM at he
  simp only at he hz hk ⊢
  have hk4 : k = 1 ∨ k = 2 ∨ k = 3 ∨ k = 4 := by omega
  rcases hk4 with rfl | rfl | rfl | rfl
  all_goals
    simp at he hz
  · obtain ⟨_, _, rfl, rfl, rfl, rfl⟩ := he
    obtain ⟨h1, h2, h3, h4, h5⟩ := hz
    exact ⟨h1, h2, h3, n0, n0, n0, n0, h4, h5⟩
  · obtain ⟨_, rfl, rfl, rfl, rfl, rfl⟩ := he
    obtain ⟨h1, h2, h3, h4⟩ := hz
    exact ⟨h1, n0, n0, h2, n0, n0, n0, h3, h4⟩
  · obtain ⟨_, _, rfl, rfl, rfl, rfl, rfl, rfl, rfl⟩ := he
    obtain ⟨h1, h2⟩ := hz
    exact ⟨n0, n0, n0, n0, h1, h2, n0, n0, n0⟩
  · obtain ⟨_, rfl, rfl, rfl, rfl, rfl, rfl, rfl, rfl⟩ := he
    exact ⟨n0, n0, n0, n0, n0, n0, hz, n0, n0⟩
theorem wrap_small (n : Nat) (h : n ≤ 600000) : wrap64 (n : Int) = (n : Int) := by
  unfold wrap64
  omega
theorem heavy_right {m : Mg} (h : rightM m = true) (q : Int) : heavyV m q = decide (q < ((m.x4.size + m.x5.size + m.x6.size + m.x7.size + m.x8.size + m.x9.size + m.x10.size + m.x11.size + m.x12.size : Nat) : Int)) := by
  obtain ⟨h4, h5, h6, h7, h8, h9, h10, h11, h12⟩ := right_sizes h
  unfold heavyV
  generalize m.x4.size = a4 at *
  generalize m.x5.size = a5 at *
  generalize m.x6.size = a6 at *
  generalize m.x7.size = a7 at *
  generalize m.x8.size = a8 at *
  generalize m.x9.size = a9 at *
  generalize m.x10.size = a10 at *
  generalize m.x11.size = a11 at *
  generalize m.x12.size = a12 at *
  rw [← Int.natCast_add, wrap_small _ (by omega), ← Int.natCast_add, wrap_small _ (by omega), ← Int.natCast_add, wrap_small _ (by omega), ← Int.natCast_add, wrap_small _ (by omega), ← Int.natCast_add, wrap_small _ (by omega), ← Int.natCast_add, wrap_small _ (by omega), ← Int.natCast_add, wrap_small _ (by omega), ← Int.natCast_add, wrap_small _ (by omega)]
end
section
open Go.RowKit Go.Deep

/-- What the reference's Hear tells. -/
noncomputable def hearRV (r : ByteArray) (m : Mg) : Hrd :=
  let hA := begH (pubT r) m.x4
  let uA := agreeT r m.x4
  let cB := kdfT 1 (begC m.x4) uA
  let p := openT m.x5 (kdfT 2 (begC m.x4) uA) 0 hA
  let hB := hashT hA m.x5
  let uB := agreeT r p.1
  let q := openT m.x6 (kdfT 2 cB uB) 0 hB
  if isV r = false ∨ rightM m = false ∨ m.k ≠ 1 ∨ kindT m.x4 ≠ 5 then noHrd 3
  else if p.2 ≠ 0 then noHrd 8
  else if kindT p.1 ≠ 5 then noHrd 3
  else if q.2 ≠ 0 then noHrd 8
  else if kindT q.1 ≠ 3 then noHrd 3
  else ⟨0, p.1, (whatV q.1).2.1, kdfT 1 cB uB, hashT hB m.x6⟩
theorem open_size {t k v : ByteArray} {n : Nat} (h : (openT t k n v).2 = 0) : isV (openT t k n v).1 = true ∧ (openT t k n v).1.size ≤ t.size ∧ isV t = true := by
  unfold openT at *
  cases hp : parseV t with
  | none => rw [hp] at h; exact absurd (show (3 : Int) = 0 from h) (by decide)
  | some nd =>
    obtain ⟨k', m, b, l⟩ := nd
    rw [hp] at h
    simp only at h ⊢
    by_cases hk : k' ≠ 10
    · rw [if_pos hk] at h; exact absurd (show (3 : Int) = 0 from h) (by decide)
    · rw [if_neg hk] at h ⊢
      have hk2 : k' = 10 := Decidable.not_not.1 hk
      subst hk2
      obtain ⟨_, _, _, h4, _, _, _, h8, h9, _⟩ := read_make hp
      obtain ⟨p0, p1, p2, rfl⟩ := three_of rfl h4
      by_cases hc : [p0, p1, p2].getD 0 ByteArray.empty = k ∧ m = n ∧ [p0, p1, p2].getD 2 ByteArray.empty = v
      · rw [if_pos hc]
        exact ⟨h8 p1 (by simp), h9 p1 (by simp), by unfold isV; rw [hp]; rfl⟩
      · rw [if_neg hc] at h; exact absurd (show (8 : Int) = 0 from h) (by decide)
/-- The texts of a right Init. -/
theorem init_texts {m : Mg} (h : rightM m = true) (hk : m.k = 1) (hH : heavyV m 4000 = false) : Tn 4000 m.x4 ∧ Tn 4000 m.x5 ∧ Tn 4000 m.x6 := by
  rw [heavy_right h, decide_eq_false_iff_not] at hH
  unfold rightM at h
  rw [Bool.and_eq_true, Bool.and_eq_true, List.all_eq_true] at h
  have hz : textsM m = [m.x4, m.x5, m.x6, m.x11, m.x12] := by unfold textsM; rw [if_pos hk]
  rw [hz] at h
  have f4 := fit_is (h.2.1 m.x4 (by simp))
  have f5 := fit_is (h.2.1 m.x5 (by simp))
  have f6 := fit_is (h.2.1 m.x6 (by simp))
  exact ⟨f4.mono (by omega), f5.mono (by omega), f6.mono (by omega)⟩
theorem val_what (s : ByteArray) (_h : kindT s = 3) : (valT s).1 = (whatV s).2.1 := by rw [what_val]
theorem hear_same {r : ByteArray} {m : Mg} (hr : r.size ≤ 200) (hH : heavyV m 4000 = false) : hearV r m = hearRV r m := by
  by_cases hg : isV r = false ∨ rightM m = false ∨ m.k ≠ 1 ∨ kindT m.x4 ≠ 5
  · have h1 : hearV r m = noHrd 3 := by
      unfold hearV
      simp only
      rw [if_pos]
      rcases hg with h1 | h1 | h1 | h1
      · exact .inl (termsB_no (by simp) h1)
      · exact .inr (.inl h1)
      · exact .inr (.inr (.inl h1))
      · exact .inr (.inr (.inr (by rw [pubs_one, decide_eq_false h1])))
    have h2 : hearRV r m = noHrd 3 := by
      unfold hearRV
      simp only
      rw [if_pos hg]
    rw [h1, h2]
  · have hr1 : isV r = true := by cases h : isV r; exact absurd (.inl h) hg; rfl
    have hr2 : rightM m = true := by cases h : rightM m; exact absurd (.inr (.inl h)) hg; rfl
    have hk : m.k = 1 := Decidable.byContradiction fun h => hg (.inr (.inr (.inl h)))
    have h5 : kindT m.x4 = 5 := Decidable.byContradiction fun h => hg (.inr (.inr (.inr h)))
    have tr : Tn 200 r := ⟨hr1, hr⟩
    obtain ⟨t4, t5, t6⟩ := init_texts hr2 hk hH
    obtain ⟨a, ea, ta, sa, _⟩ := pub_is h5
    have tta : Tn 4000 a := ⟨ta, Nat.le_trans sa t4.2⟩
    have c0 : Tn 4044 (begC m.x4) := (tn_begC t4 (by omega)).mono (by omega)
    have h0 : Tn 4295 (begH (pubT r) m.x4) := (tn_begH (tn_pub tr (by omega)) t4 (by omega)).mono (by omega)
    have uA : Tn 4226 (agreeT r m.x4) := ea ▸ tn_agree tr tta (by omega)
    have g1 : termsB [r] = true := termsB_yes (by intro x hx; rw [List.mem_singleton] at hx; subst hx; exact hr1)
    have g2 : pubsB [m.x4] = true := by rw [pubs_one, h5]; rfl
    have hg2 : ¬ (termsB [r] = false ∨ rightM m = false ∨ m.k ≠ 1 ∨ pubsB [m.x4] = false) := by
      rw [g1, hr2, g2, hk]
      simp
    unfold hearV hearRV
    simp only
    rw [if_neg hg, if_neg hg2]
    clear hg hg2 g1 g2 ea h5
    generalize begC m.x4 = cA at *
    generalize begH (pubT r) m.x4 = hA at *
    generalize agreeT r m.x4 = vA at *
    have kA : Tn 8296 (kdfT 2 cA vA) := (tn_kdf 2 (by omega) c0 uA (by omega)).mono (by omega)
    have cB : Tn 8296 (kdfT 1 cA vA) := (tn_kdf 1 (by omega) c0 uA (by omega)).mono (by omega)
    generalize kdfT 2 cA vA = k2 at *
    generalize kdfT 1 cA vA = k1 at *
    have g3 : madeB [k1, hA, k2] = true := made_all (by
      intro x hx
      simp only [List.mem_cons, List.not_mem_nil, or_false] at hx
      rcases hx with rfl | rfl | rfl
      · exact cB.ne
      · exact h0.ne
      · exact kA.ne)
    rw [if_neg (show ¬ madeB [k1, hA, k2] = false by rw [g3]; decide)]
    have hz0 := @open_size m.x5 k2 hA 0
    generalize openT m.x5 k2 0 hA = po at *
    by_cases hp : po.2 ≠ 0
    · rw [if_pos hp, if_pos hp]
    · rw [if_neg hp, if_neg hp]
      have hz := hz0 (Decidable.not_not.1 hp)
      rw [pubs_one]
      by_cases h6 : kindT po.1 ≠ 5
      · rw [if_pos h6, if_pos (decide_eq_false h6)]
      · have h7 : kindT po.1 = 5 := Decidable.not_not.1 h6
        rw [if_neg h6, if_neg (by rw [decide_eq_true h7]; decide)]
        obtain ⟨b, eb, tb, sb, _⟩ := pub_is h7
        have ttb : Tn 4000 b := ⟨tb, Nat.le_trans sb (Nat.le_trans hz.2.1 t5.2)⟩
        have uB : Tn 4226 (agreeT r po.1) := eb ▸ tn_agree tr ttb (by omega)
        have hB : Tn 8321 (hashT hA m.x5) := (tn_two 7 (.inr (.inl rfl)) h0 t5 (by omega)).mono (by omega)
        generalize agreeT r po.1 = vB at *
        generalize hashT hA m.x5 = hB' at *
        have kB : Tn 12548 (kdfT 2 k1 vB) := (tn_kdf 2 (by omega) cB uB (by omega)).mono (by omega)
        have cC : Tn 12548 (kdfT 1 k1 vB) := (tn_kdf 1 (by omega) cB uB (by omega)).mono (by omega)
        have hC : Tn 12347 (hashT hB' m.x6) := (tn_two 7 (.inr (.inl rfl)) hB t6 (by omega)).mono (by omega)
        generalize kdfT 2 k1 vB = k4 at *
        generalize kdfT 1 k1 vB = k3 at *
        generalize hashT hB' m.x6 = hC' at *
        have g4 : madeB [k3, hB', k4] = true := made_all (by
          intro x hx
          simp only [List.mem_cons, List.not_mem_nil, or_false] at hx
          rcases hx with rfl | rfl | rfl
          · exact cC.ne
          · exact hB.ne
          · exact kB.ne)
        have g5 : madeB [hC'] = true := made_all (by
          intro x hx
          rw [List.mem_singleton] at hx
          subst hx
          exact hC.ne)
        rw [if_neg (show ¬ madeB [k3, hB', k4] = false by rw [g4]; decide)]
        generalize openT m.x6 k4 0 hB' = qo at *
        by_cases h8 : qo.2 ≠ 0
        · rw [if_pos h8, if_pos h8]
        · rw [if_neg h8, if_neg h8]
          by_cases h9 : kindT qo.1 ≠ 3
          · rw [if_pos h9, if_pos h9]
          · rw [if_neg h9, if_neg h9, if_neg (show ¬ madeB [hC'] = false by rw [g5]; decide), val_what qo.1 (Decidable.not_not.1 h9)]
end
section
open Go.RowKit Go.Deep

def hrdRC (v : Hrd) : Array Value := if v.k = 0 then #[.string v.p, .int .u64 (v.n : Nat), .string v.c, .string v.h] else #[.string ⟨#[]⟩, .int .u64 0, .string ⟨#[]⟩, .string ⟨#[]⟩]
theorem her_no {k : Int} {w w' : World} {e : Ending} (hk : k ≠ 0) (h : HeaPost k #[.string ⟨#[]⟩, .int .u64 0, .string ⟨#[]⟩, .string ⟨#[]⟩] w e w') : HeaPost (noHrd k).k (hrdRC (noHrd k)) w e w' := by
  unfold hrdRC
  rw [if_neg (show (noHrd k).k ≠ 0 from hk)]
  exact h
theorem her_yes {n : Nat} {p c h : ByteArray} {w w' : World} {e : Ending} (hh : HeaPost 0 #[.string p, .int .u64 (n : Nat), .string c, .string h] w e w') : HeaPost (Hrd.mk 0 p n c h).k (hrdRC (Hrd.mk 0 p n c h)) w e w' := by
  unfold hrdRC
  rw [if_pos rfl]
  exact hh
theorem HearR_any (w : World) (sc : ByteArray) (k : Int) (sn r cc : Nat) (x4 x5 x6 x7 x8 x9 x10 x11 x12 : ByteArray) (hsc : sc.size ≤ maxLen) (hF : (Mg.mk k sn r cc x4 x5 x6 x7 x8 x9 x10 x11 x12).Fine) : Calls Tryz.prog 43 #[.string sc, .agg #[.int .i64 k, .int .u32 (sn : Nat), .int .u32 (r : Nat), .int .u64 (cc : Nat), .string x4, .string x5, .string x6, .string x7, .string x8, .string x9, .string x10, .string x11, .string x12]] w (HeaPost (hearRV sc (Mg.mk k sn r cc x4 x5 x6 x7 x8 x9 x10 x11 x12)).k (hrdRC (hearRV sc (Mg.mk k sn r cc x4 x5 x6 x7 x8 x9 x10 x11 x12))) w) := by
  obtain ⟨pr, e_pr⟩ : ∃ x, pubT sc = x := ⟨_, rfl⟩
  obtain ⟨cA, e_cA⟩ : ∃ x, begC x4 = x := ⟨_, rfl⟩
  obtain ⟨hA, e_hA⟩ : ∃ x, begH pr x4 = x := ⟨_, rfl⟩
  obtain ⟨uA, e_uA⟩ : ∃ x, agreeT sc x4 = x := ⟨_, rfl⟩
  obtain ⟨kA, e_kA⟩ : ∃ x, kdfT 2 cA uA = x := ⟨_, rfl⟩
  obtain ⟨cB, e_cB⟩ : ∃ x, kdfT 1 cA uA = x := ⟨_, rfl⟩
  obtain ⟨⟨p, pc⟩, hp⟩ : ∃ z, openT x5 kA 0 hA = z := ⟨_, rfl⟩
  obtain ⟨hB, e_hB⟩ : ∃ x, hashT hA x5 = x := ⟨_, rfl⟩
  obtain ⟨uB, e_uB⟩ : ∃ x, agreeT sc p = x := ⟨_, rfl⟩
  obtain ⟨kB, e_kB⟩ : ∃ x, kdfT 2 cB uB = x := ⟨_, rfl⟩
  obtain ⟨cC, e_cC⟩ : ∃ x, kdfT 1 cB uB = x := ⟨_, rfl⟩
  obtain ⟨⟨q, qc⟩, hq⟩ : ∃ z, openT x6 kB 0 hB = z := ⟨_, rfl⟩
  obtain ⟨hC, e_hC⟩ : ∃ x, hashT hB x6 = x := ⟨_, rfl⟩
  have hv : hearRV sc (Mg.mk k sn r cc x4 x5 x6 x7 x8 x9 x10 x11 x12) = if (parseV sc).isSome = false ∨ rightM (Mg.mk k sn r cc x4 x5 x6 x7 x8 x9 x10 x11 x12) = false ∨ k ≠ 1 ∨ (whatV x4).1 ≠ 5 then noHrd 3 else if pc ≠ 0 then noHrd 8 else if (whatV p).1 ≠ 5 then noHrd 3 else if qc ≠ 0 then noHrd 8 else if (whatV q).1 ≠ 3 then noHrd 3 else ⟨0, p, (whatV q).2.1, cC, hC⟩ := by
    unfold hearRV isV
    simp only [e_pr, e_cA, e_hA, e_uA, e_kA, e_cB, e_hB, e_uB, e_kB, e_cC, e_hC, hp, hq, what_kind]
  rw [hv]
  clear hv
  by_cases hg : (parseV sc).isSome = false ∨ rightM (Mg.mk k sn r cc x4 x5 x6 x7 x8 x9 x10 x11 x12) = false ∨ k ≠ 1 ∨ (whatV x4).1 ≠ 5
  · rw [if_pos hg]
    cases hb : (parseV sc).isSome with
    | false => exact (HearR_f1 w sc k sn r cc x4 x5 x6 x7 x8 x9 x10 x11 x12 hsc hF hb).mono fun e w' h => her_no (by decide) h
    | true =>
      cases hr : rightM (Mg.mk k sn r cc x4 x5 x6 x7 x8 x9 x10 x11 x12) with
      | false => exact (HearR_f2 w sc k sn r cc x4 x5 x6 x7 x8 x9 x10 x11 x12 hsc hF hb hr).mono fun e w' h => her_no (by decide) h
      | true =>
        by_cases hk : k = 1
        · have hpb : (whatV x4).1 ≠ 5 := by
            rcases hg with h1 | h1 | h1 | h1
            · rw [hb] at h1; cases h1
            · rw [hr] at h1; cases h1
            · exact absurd hk h1
            · exact h1
          exact (HearR_f4 w sc k sn r cc x4 x5 x6 x7 x8 x9 x10 x11 x12 hsc hF hb hr hk hpb).mono fun e w' h => her_no (by decide) h
        · exact (HearR_f3 w sc k sn r cc x4 x5 x6 x7 x8 x9 x10 x11 x12 hsc hF hb hr hk).mono fun e w' h => her_no (by decide) h
  · rw [if_neg hg]
    have hb : (parseV sc).isSome = true := by cases h1 : (parseV sc).isSome; exact absurd (.inl h1) hg; rfl
    have hr : rightM (Mg.mk k sn r cc x4 x5 x6 x7 x8 x9 x10 x11 x12) = true := by cases h1 : rightM (Mg.mk k sn r cc x4 x5 x6 x7 x8 x9 x10 x11 x12); exact absurd (.inr (.inl h1)) hg; rfl
    have hk : k = 1 := Decidable.byContradiction fun h1 => hg (.inr (.inr (.inl h1)))
    have hpb : (whatV x4).1 = 5 := Decidable.byContradiction fun h1 => hg (.inr (.inr (.inr h1)))
    obtain ⟨_, s5, s6, _⟩ := right_sizes hr
    have hm5 : x5.size ≤ 1000000 := by have : x5.size ≤ 65535 := s5; omega
    have hm6 : x6.size ≤ 1000000 := by have : x6.size ≤ 65535 := s6; omega
    refine HearR_walk w sc k sn r cc x4 x5 x6 x7 x8 x9 x10 x11 x12 hsc hF hb hr hk hpb hm5 hm6 p pc q qc pr cA hA uA kA cB hB uB kB cC hC e_pr e_cA e_hA e_uA e_kA e_cB e_hB e_uB e_kB e_cC e_hC hp hq (whatV p).1 rfl (whatV q).1 (whatV q).2.1 rfl rfl _ (fun h1 e w' h => ?_) (fun h1 h2 e w' h => ?_) (fun h1 h2 h3 e w' h => ?_) (fun h1 h2 h3 h4 e w' h => ?_) (fun h1 h2 h3 h4 e w' h => ?_)
    · rw [if_pos h1]; exact her_no (by decide) h
    · rw [if_neg (fun h0 => h0 h1), if_pos h2]; exact her_no (by decide) h
    · rw [if_neg (fun h0 => h0 h1), if_neg (fun h0 => h0 h2), if_pos h3]; exact her_no (by decide) h
    · rw [if_neg (fun h0 => h0 h1), if_neg (fun h0 => h0 h2), if_neg (fun h0 => h0 h3), if_pos h4]; exact her_no (by decide) h
    · rw [if_neg (fun h0 => h0 h1), if_neg (fun h0 => h0 h2), if_neg (fun h0 => h0 h3), if_neg (fun h0 => h0 h4)]; exact her_yes h
end
section
open Go.RowKit Go.Deep

theorem heard_cases (r : ByteArray) (m : Mg) : (∃ k, (k = 3 ∨ k = 8) ∧ hearRV r m = noHrd k) ∨ ∃ p n c h, hearRV r m = ⟨0, p, n, c, h⟩ := by
  unfold hearRV
  simp only
  generalize kdfT 1 (kdfT 1 (begC m.x4) (agreeT r m.x4)) _ = cc
  generalize hashT (hashT (begH (pubT r) m.x4) m.x5) m.x6 = hh
  generalize openT m.x6 _ 0 _ = q
  generalize openT m.x5 _ 0 _ = p
  split
  · exact .inl ⟨3, .inl rfl, rfl⟩
  · split
    · exact .inl ⟨8, .inr rfl, rfl⟩
    · split
      · exact .inl ⟨3, .inl rfl, rfl⟩
      · split
        · exact .inl ⟨8, .inr rfl, rfl⟩
        · split
          · exact .inl ⟨3, .inl rfl, rfl⟩
          · exact .inr ⟨_, _, _, _, rfl⟩
set_option maxRecDepth 100000 in
set_option maxHeartbeats 12800000 in
theorem ng_big (w : World) (sc : ByteArray) (k : Int) (sn r cc : Nat) (x4 x5 x6 x7 x8 x9 x10 x11 x12 : ByteArray) (hsc : sc.size ≤ maxLen) (hF : (Mg.mk k sn r cc x4 x5 x6 x7 x8 x9 x10 x11 x12).Fine) (htab : Tab w) (hb : bigB [sc] = true) : Calls Tryz.prog 7 #[.string sc, .agg #[.int .i64 k, .int .u32 (sn : Nat), .int .u32 (r : Nat), .int .u64 (cc : Nat), .string x4, .string x5, .string x6, .string x7, .string x8, .string x9, .string x10, .string x11, .string x12]] w fun e' w' => e' = .returned (.bool true) ∧ Only [] w w' := by
  have KAW := hide (fun W h => awake10 W h)
  have KBG := hide (fun W G hG => big10_new1 W G hG sc hsc)
  have KHV := hide (show ∀ W, Calls Tryz.prog 28 #[.agg #[.int .i64 k, .int .u32 (sn : Nat), .int .u32 (r : Nat), .int .u64 (cc : Nat), .string x4, .string x5, .string x6, .string x7, .string x8, .string x9, .string x10, .string x11, .string x12], .int .i64 4000] W (RetB (heavyV (Mg.mk k sn r cc x4 x5 x6 x7 x8 x9 x10 x11 x12) 4000) W) from fun W => Heavy_any (Mg.mk k sn r cc x4 x5 x6 x7 x8 x9 x10 x11 x12) 4000 W)
  unfold RetB at KBG KHV
  have HT := hide htab
  have HMB := hide (Blk.new w 25 #[.int .i64 k, .int .u32 (sn : Nat), .int .u32 (r : Nat), .int .u64 (cc : Nat), .string x4, .string x5, .string x6, .string x7, .string x8, .string x9, .string x10, .string x11, .string x12])
  have HO := hide ((Only.refl [] w).alloc (.cells #[.int .i64 k, .int .u32 (sn : Nat), .int .u32 (r : Nat), .int .u64 (cc : Nat), .string x4, .string x5, .string x6, .string x7, .string x8, .string x9, .string x10, .string x11, .string x12] 25))
  rw [hb] at KBG
  clear hb KHV
  clear hsc hF htab
  go_enter Tryz.func7, Tryz.ntmps7
  go_upto_region 1 with fail
  generalize (w.alloc (.cells #[.int .i64 k, .int .u32 (sn : Nat), .int .u32 (r : Nat), .int .u64 (cc : Nat), .string x4, .string x5, .string x6, .string x7, .string x8, .string x9, .string x10, .string x11, .string x12] 25)) = v0 at *
  go_wp2_with (first
    | (go_at_call 36; refine (KAW.out _ (HT.out.only HO.out (by simp))).mono ?_; rintro e2 wa ⟨rfl, ho⟩; replace HMB := hon HMB ho; replace HO := htr HO ho; clear ho; (try clear m0 m1 m2 m3 m4 m5 m6 m7 m8 m9 m10 m11 m12); obtain ⟨m0, m1, m2, m3, m4, m5, m6, m7, m8, m9, m10, m11, m12⟩ := cells13 HMB.out)
    | (go_at_call 37; (with_reducible refine (KBG.out _ _ rfl).mono ?_); rintro e2 wg ⟨rfl, ho⟩; replace HMB := hon HMB ho; replace HO := htr HO ho; clear ho; (try clear m0 m1 m2 m3 m4 m5 m6 m7 m8 m9 m10 m11 m12); obtain ⟨m0, m1, m2, m3, m4, m5, m6, m7, m8, m9, m10, m11, m12⟩ := cells13 HMB.out))
  go_ret
  exact ⟨rfl, HO.out⟩
set_option maxRecDepth 100000 in
set_option maxHeartbeats 12800000 in
theorem ng_heavy (w : World) (sc : ByteArray) (k : Int) (sn r cc : Nat) (x4 x5 x6 x7 x8 x9 x10 x11 x12 : ByteArray) (hsc : sc.size ≤ maxLen) (hF : (Mg.mk k sn r cc x4 x5 x6 x7 x8 x9 x10 x11 x12).Fine) (htab : Tab w) (hb : bigB [sc] = false) (hv : heavyV (Mg.mk k sn r cc x4 x5 x6 x7 x8 x9 x10 x11 x12) 4000 = true) : Calls Tryz.prog 7 #[.string sc, .agg #[.int .i64 k, .int .u32 (sn : Nat), .int .u32 (r : Nat), .int .u64 (cc : Nat), .string x4, .string x5, .string x6, .string x7, .string x8, .string x9, .string x10, .string x11, .string x12]] w fun e' w' => e' = .returned (.bool true) ∧ Only [] w w' := by
  have KAW := hide (fun W h => awake10 W h)
  have KBG := hide (fun W G hG => big10_new1 W G hG sc hsc)
  have KHV := hide (show ∀ W, Calls Tryz.prog 28 #[.agg #[.int .i64 k, .int .u32 (sn : Nat), .int .u32 (r : Nat), .int .u64 (cc : Nat), .string x4, .string x5, .string x6, .string x7, .string x8, .string x9, .string x10, .string x11, .string x12], .int .i64 4000] W (RetB (heavyV (Mg.mk k sn r cc x4 x5 x6 x7 x8 x9 x10 x11 x12) 4000) W) from fun W => Heavy_any (Mg.mk k sn r cc x4 x5 x6 x7 x8 x9 x10 x11 x12) 4000 W)
  unfold RetB at KBG KHV
  have HT := hide htab
  have HMB := hide (Blk.new w 25 #[.int .i64 k, .int .u32 (sn : Nat), .int .u32 (r : Nat), .int .u64 (cc : Nat), .string x4, .string x5, .string x6, .string x7, .string x8, .string x9, .string x10, .string x11, .string x12])
  have HO := hide ((Only.refl [] w).alloc (.cells #[.int .i64 k, .int .u32 (sn : Nat), .int .u32 (r : Nat), .int .u64 (cc : Nat), .string x4, .string x5, .string x6, .string x7, .string x8, .string x9, .string x10, .string x11, .string x12] 25))
  rw [hb] at KBG
  rw [hv] at KHV
  clear hb hv
  clear hsc hF htab
  go_enter Tryz.func7, Tryz.ntmps7
  go_upto_region 1 with fail
  generalize (w.alloc (.cells #[.int .i64 k, .int .u32 (sn : Nat), .int .u32 (r : Nat), .int .u64 (cc : Nat), .string x4, .string x5, .string x6, .string x7, .string x8, .string x9, .string x10, .string x11, .string x12] 25)) = v0 at *
  go_wp2_with (first
    | (go_at_call 36; refine (KAW.out _ (HT.out.only HO.out (by simp))).mono ?_; rintro e2 wa ⟨rfl, ho⟩; replace HMB := hon HMB ho; replace HO := htr HO ho; clear ho; (try clear m0 m1 m2 m3 m4 m5 m6 m7 m8 m9 m10 m11 m12); obtain ⟨m0, m1, m2, m3, m4, m5, m6, m7, m8, m9, m10, m11, m12⟩ := cells13 HMB.out)
    | (go_at_call 37; (with_reducible refine (KBG.out _ _ rfl).mono ?_); rintro e2 wg ⟨rfl, ho⟩; replace HMB := hon HMB ho; replace HO := htr HO ho; clear ho; (try clear m0 m1 m2 m3 m4 m5 m6 m7 m8 m9 m10 m11 m12); obtain ⟨m0, m1, m2, m3, m4, m5, m6, m7, m8, m9, m10, m11, m12⟩ := cells13 HMB.out)
    | (go_at_call 28; (with_reducible refine (KHV.out _).mono ?_); rintro e2 wh ⟨rfl, ho⟩; replace HMB := hon HMB ho; replace HO := htr HO ho; clear ho; (try clear m0 m1 m2 m3 m4 m5 m6 m7 m8 m9 m10 m11 m12); obtain ⟨m0, m1, m2, m3, m4, m5, m6, m7, m8, m9, m10, m11, m12⟩ := cells13 HMB.out))
  go_ret
  exact ⟨rfl, HO.out⟩
set_option maxRecDepth 100000 in
set_option maxHeartbeats 12800000 in
theorem ng_no (w : World) (sc : ByteArray) (k : Int) (sn r cc : Nat) (x4 x5 x6 x7 x8 x9 x10 x11 x12 : ByteArray) (hsc : sc.size ≤ maxLen) (hF : (Mg.mk k sn r cc x4 x5 x6 x7 x8 x9 x10 x11 x12).Fine) (htab : Tab w) (hb : bigB [sc] = false) (hv : heavyV (Mg.mk k sn r cc x4 x5 x6 x7 x8 x9 x10 x11 x12) 4000 = false) (k2 : Int) (hk0 : k2 = 3 ∨ k2 = 8) (hv1 : hearV sc (Mg.mk k sn r cc x4 x5 x6 x7 x8 x9 x10 x11 x12) = noHrd k2) (hv2 : hearRV sc (Mg.mk k sn r cc x4 x5 x6 x7 x8 x9 x10 x11 x12) = noHrd k2) : Calls Tryz.prog 7 #[.string sc, .agg #[.int .i64 k, .int .u32 (sn : Nat), .int .u32 (r : Nat), .int .u64 (cc : Nat), .string x4, .string x5, .string x6, .string x7, .string x8, .string x9, .string x10, .string x11, .string x12]] w fun e' w' => e' = .returned (.bool true) ∧ Only [] w w' := by
  have KAW := hide (fun W h => awake10 W h)
  have KBG := hide (fun W G hG => big10_new1 W G hG sc hsc)
  have KHV := hide (show ∀ W, Calls Tryz.prog 28 #[.agg #[.int .i64 k, .int .u32 (sn : Nat), .int .u32 (r : Nat), .int .u64 (cc : Nat), .string x4, .string x5, .string x6, .string x7, .string x8, .string x9, .string x10, .string x11, .string x12], .int .i64 4000] W (RetB (heavyV (Mg.mk k sn r cc x4 x5 x6 x7 x8 x9 x10 x11 x12) 4000) W) from fun W => Heavy_any (Mg.mk k sn r cc x4 x5 x6 x7 x8 x9 x10 x11 x12) 4000 W)
  unfold RetB at KBG KHV
  have HT := hide htab
  have HMB := hide (Blk.new w 25 #[.int .i64 k, .int .u32 (sn : Nat), .int .u32 (r : Nat), .int .u64 (cc : Nat), .string x4, .string x5, .string x6, .string x7, .string x8, .string x9, .string x10, .string x11, .string x12])
  have HO := hide ((Only.refl [] w).alloc (.cells #[.int .i64 k, .int .u32 (sn : Nat), .int .u32 (r : Nat), .int .u64 (cc : Nat), .string x4, .string x5, .string x6, .string x7, .string x8, .string x9, .string x10, .string x11, .string x12] 25))
  rw [hb] at KBG
  rw [hv] at KHV
  have hk0n : k2 ≠ 0 := by omega
  have KH : Hid (∀ W, Tab W → Calls Tryz.prog 41 #[.string sc, .agg #[.int .i64 k, .int .u32 (sn : Nat), .int .u32 (r : Nat), .int .u64 (cc : Nat), .string x4, .string x5, .string x6, .string x7, .string x8, .string x9, .string x10, .string x11, .string x12]] W (HeaPost k2 #[.int .u32 0, .string ⟨#[]⟩, .int .u64 0, .string ⟨#[]⟩, .string ⟨#[]⟩, .string ⟨#[]⟩] W)) := hide (fun W ht => by
      have h := Hear_any W sc k sn r cc x4 x5 x6 x7 x8 x9 x10 x11 x12 hsc hF ht
      rw [hv1] at h
      unfold hrdC at h
      rw [if_neg (show (noHrd k2).k ≠ 0 from hk0n)] at h
      exact h)
  have KR : Hid (∀ W, Calls Tryz.prog 43 #[.string sc, .agg #[.int .i64 k, .int .u32 (sn : Nat), .int .u32 (r : Nat), .int .u64 (cc : Nat), .string x4, .string x5, .string x6, .string x7, .string x8, .string x9, .string x10, .string x11, .string x12]] W (HeaPost k2 #[.string ⟨#[]⟩, .int .u64 0, .string ⟨#[]⟩, .string ⟨#[]⟩] W)) := hide (fun W => by
      have h := HearR_any W sc k sn r cc x4 x5 x6 x7 x8 x9 x10 x11 x12 hsc hF
      rw [hv2] at h
      unfold hrdRC at h
      rw [if_neg (show (noHrd k2).k ≠ 0 from hk0n)] at h
      exact h)
  unfold HeaPost at KH KR
  have hnz : (k2 != 0) = true := by rw [bne_iff_ne]; exact hk0n
  have hkk : (k2 == k2) = true := by simp
  have hzh : ∀ W, (binOp .eql 84 (.agg #[.int .u32 0, .string ⟨#[]⟩, .int .u64 0, .string ⟨#[]⟩, .string ⟨#[]⟩, .string ⟨#[]⟩]) (.agg #[.int .u32 0, .string ⟨#[]⟩, .int .u64 0, .string ⟨#[]⟩, .string ⟨#[]⟩, .string ⟨#[]⟩])).run Tryz.prog W = .ok (.bool true) W := fun W => heard_same 0 ⟨#[]⟩ 0 ⟨#[]⟩ ⟨#[]⟩ ⟨#[]⟩ W
  clear hk0n hk0
  clear hsc hF htab hb hv hv1 hv2
  go_enter Tryz.func7, Tryz.ntmps7
  go_upto_region 1 with fail
  generalize (w.alloc (.cells #[.int .i64 k, .int .u32 (sn : Nat), .int .u32 (r : Nat), .int .u64 (cc : Nat), .string x4, .string x5, .string x6, .string x7, .string x8, .string x9, .string x10, .string x11, .string x12] 25)) = v0 at *
  go_upto_region 5 with (first
    | (go_at_call 36; refine (KAW.out _ (HT.out.only HO.out (by simp))).mono ?_; rintro e2 wa ⟨rfl, ho⟩; replace HMB := hon HMB ho; replace HO := htr HO ho; clear ho; (try clear m0 m1 m2 m3 m4 m5 m6 m7 m8 m9 m10 m11 m12); obtain ⟨m0, m1, m2, m3, m4, m5, m6, m7, m8, m9, m10, m11, m12⟩ := cells13 HMB.out)
    | (go_at_call 37; (with_reducible refine (KBG.out _ _ rfl).mono ?_); rintro e2 wg ⟨rfl, ho⟩; replace HMB := hon HMB ho; replace HO := htr HO ho; clear ho; (try clear m0 m1 m2 m3 m4 m5 m6 m7 m8 m9 m10 m11 m12); obtain ⟨m0, m1, m2, m3, m4, m5, m6, m7, m8, m9, m10, m11, m12⟩ := cells13 HMB.out)
    | (go_at_call 28; (with_reducible refine (KHV.out _).mono ?_); rintro e2 wh ⟨rfl, ho⟩; replace HMB := hon HMB ho; replace HO := htr HO ho; clear ho; (try clear m0 m1 m2 m3 m4 m5 m6 m7 m8 m9 m10 m11 m12); obtain ⟨m0, m1, m2, m3, m4, m5, m6, m7, m8, m9, m10, m11, m12⟩ := cells13 HMB.out))
  go_upto_region 6 with (go_at_call 41; (with_reducible refine (KH.out _ (HT.out.only HO.out (by simp))).mono ?_); rintro e2 wb ⟨rfl, ho⟩; replace HMB := hon HMB ho; replace HO := htr HO ho; clear ho; (try clear m0 m1 m2 m3 m4 m5 m6 m7 m8 m9 m10 m11 m12))
  have HH := hide (Blk.new wb 84 #[.int .u32 0, .string ⟨#[]⟩, .int .u64 0, .string ⟨#[]⟩, .string ⟨#[]⟩, .string ⟨#[]⟩])
  replace HMB := hide (HMB.out.alloc (.cells #[.int .u32 0, .string ⟨#[]⟩, .int .u64 0, .string ⟨#[]⟩, .string ⟨#[]⟩, .string ⟨#[]⟩] 84))
  replace HO := hide (HO.out.alloc (.cells #[.int .u32 0, .string ⟨#[]⟩, .int .u64 0, .string ⟨#[]⟩, .string ⟨#[]⟩, .string ⟨#[]⟩] 84))
  generalize (wb.alloc (.cells #[.int .u32 0, .string ⟨#[]⟩, .int .u64 0, .string ⟨#[]⟩, .string ⟨#[]⟩, .string ⟨#[]⟩] 84)) = w2 at *
  obtain ⟨gh, hgh⟩ : ∃ g, g = wb.heap.size := ⟨_, rfl⟩
  rw [← hgh] at HH ⊢
  clear hgh
  obtain ⟨m0, m1, m2, m3, m4, m5, m6, m7, m8, m9, m10, m11, m12⟩ := cells13 HMB.out
  go_upto_region 7 with (go_at_call 43; (with_reducible refine (KR.out _).mono ?_); rintro e2 wc ⟨rfl, ho⟩; replace HMB := hon HMB ho; replace HH := hon HH ho; replace HO := htr HO ho; clear ho; (try clear m0 m1 m2 m3 m4 m5 m6 m7 m8 m9 m10 m11 m12))
  have HQ := hide (Blk.new wc 90 #[.string ⟨#[]⟩, .int .u64 0, .string ⟨#[]⟩, .string ⟨#[]⟩])
  replace HMB := hide (HMB.out.alloc (.cells #[.string ⟨#[]⟩, .int .u64 0, .string ⟨#[]⟩, .string ⟨#[]⟩] 90))
  replace HH := hide (HH.out.alloc (.cells #[.string ⟨#[]⟩, .int .u64 0, .string ⟨#[]⟩, .string ⟨#[]⟩] 90))
  replace HO := hide (HO.out.alloc (.cells #[.string ⟨#[]⟩, .int .u64 0, .string ⟨#[]⟩, .string ⟨#[]⟩] 90))
  generalize (wc.alloc (.cells #[.string ⟨#[]⟩, .int .u64 0, .string ⟨#[]⟩, .string ⟨#[]⟩] 90)) = w3 at *
  obtain ⟨gq, hgq⟩ : ∃ g, g = wc.heap.size := ⟨_, rfl⟩
  rw [← hgq] at HQ ⊢
  clear hgq
  obtain ⟨x0, x1, x2, x3, x4, x5⟩ := cells6 HH.out
  go_wp2_with fail
  go_ret
  exact ⟨rfl, HO.out⟩
set_option maxRecDepth 100000 in
set_option maxHeartbeats 12800000 in
theorem ng_yes (w : World) (sc : ByteArray) (k : Int) (sn r cc : Nat) (x4 x5 x6 x7 x8 x9 x10 x11 x12 : ByteArray) (hsc : sc.size ≤ maxLen) (hF : (Mg.mk k sn r cc x4 x5 x6 x7 x8 x9 x10 x11 x12).Fine) (htab : Tab w) (hb : bigB [sc] = false) (hv : heavyV (Mg.mk k sn r cc x4 x5 x6 x7 x8 x9 x10 x11 x12) 4000 = false) (p : ByteArray) (n : Nat) (pc ph : ByteArray) (hv1 : hearV sc (Mg.mk k sn r cc x4 x5 x6 x7 x8 x9 x10 x11 x12) = ⟨0, p, n, pc, ph⟩) (hv2 : hearRV sc (Mg.mk k sn r cc x4 x5 x6 x7 x8 x9 x10 x11 x12) = ⟨0, p, n, pc, ph⟩) : Calls Tryz.prog 7 #[.string sc, .agg #[.int .i64 k, .int .u32 (sn : Nat), .int .u32 (r : Nat), .int .u64 (cc : Nat), .string x4, .string x5, .string x6, .string x7, .string x8, .string x9, .string x10, .string x11, .string x12]] w fun e' w' => e' = .returned (.bool true) ∧ Only [] w w' := by
  have KAW := hide (fun W h => awake10 W h)
  have KBG := hide (fun W G hG => big10_new1 W G hG sc hsc)
  have KHV := hide (show ∀ W, Calls Tryz.prog 28 #[.agg #[.int .i64 k, .int .u32 (sn : Nat), .int .u32 (r : Nat), .int .u64 (cc : Nat), .string x4, .string x5, .string x6, .string x7, .string x8, .string x9, .string x10, .string x11, .string x12], .int .i64 4000] W (RetB (heavyV (Mg.mk k sn r cc x4 x5 x6 x7 x8 x9 x10 x11 x12) 4000) W) from fun W => Heavy_any (Mg.mk k sn r cc x4 x5 x6 x7 x8 x9 x10 x11 x12) 4000 W)
  unfold RetB at KBG KHV
  have HT := hide htab
  have HMB := hide (Blk.new w 25 #[.int .i64 k, .int .u32 (sn : Nat), .int .u32 (r : Nat), .int .u64 (cc : Nat), .string x4, .string x5, .string x6, .string x7, .string x8, .string x9, .string x10, .string x11, .string x12])
  have HO := hide ((Only.refl [] w).alloc (.cells #[.int .i64 k, .int .u32 (sn : Nat), .int .u32 (r : Nat), .int .u64 (cc : Nat), .string x4, .string x5, .string x6, .string x7, .string x8, .string x9, .string x10, .string x11, .string x12] 25))
  rw [hb] at KBG
  rw [hv] at KHV
  have KH : Hid (∀ W, Tab W → Calls Tryz.prog 41 #[.string sc, .agg #[.int .i64 k, .int .u32 (sn : Nat), .int .u32 (r : Nat), .int .u64 (cc : Nat), .string x4, .string x5, .string x6, .string x7, .string x8, .string x9, .string x10, .string x11, .string x12]] W (HeaPost 0 #[.int .u32 (sn : Nat), .string p, .int .u64 (n : Nat), .string x4, .string pc, .string ph] W)) := hide (fun W ht => by
      have h := Hear_any W sc k sn r cc x4 x5 x6 x7 x8 x9 x10 x11 x12 hsc hF ht
      rw [hv1] at h
      exact h)
  have KR : Hid (∀ W, Calls Tryz.prog 43 #[.string sc, .agg #[.int .i64 k, .int .u32 (sn : Nat), .int .u32 (r : Nat), .int .u64 (cc : Nat), .string x4, .string x5, .string x6, .string x7, .string x8, .string x9, .string x10, .string x11, .string x12]] W (HeaPost 0 #[.string p, .int .u64 (n : Nat), .string pc, .string ph] W)) := hide (fun W => by
      have h := HearR_any W sc k sn r cc x4 x5 x6 x7 x8 x9 x10 x11 x12 hsc hF
      rw [hv2] at h
      exact h)
  unfold HeaPost at KH KR
  have hhh : ∀ W, (binOp .eql 84 (.agg #[.int .u32 (sn : Nat), .string p, .int .u64 (n : Nat), .string x4, .string pc, .string ph]) (.agg #[.int .u32 (sn : Nat), .string p, .int .u64 (n : Nat), .string x4, .string pc, .string ph])).run Tryz.prog W = .ok (.bool true) W := fun W => heard_same sn p n x4 pc ph W
  clear hsc hF htab hb hv hv1 hv2
  go_enter Tryz.func7, Tryz.ntmps7
  go_upto_region 1 with fail
  generalize (w.alloc (.cells #[.int .i64 k, .int .u32 (sn : Nat), .int .u32 (r : Nat), .int .u64 (cc : Nat), .string x4, .string x5, .string x6, .string x7, .string x8, .string x9, .string x10, .string x11, .string x12] 25)) = v0 at *
  go_upto_region 5 with (first
    | (go_at_call 36; refine (KAW.out _ (HT.out.only HO.out (by simp))).mono ?_; rintro e2 wa ⟨rfl, ho⟩; replace HMB := hon HMB ho; replace HO := htr HO ho; clear ho; (try clear m0 m1 m2 m3 m4 m5 m6 m7 m8 m9 m10 m11 m12); obtain ⟨m0, m1, m2, m3, m4, m5, m6, m7, m8, m9, m10, m11, m12⟩ := cells13 HMB.out)
    | (go_at_call 37; (with_reducible refine (KBG.out _ _ rfl).mono ?_); rintro e2 wg ⟨rfl, ho⟩; replace HMB := hon HMB ho; replace HO := htr HO ho; clear ho; (try clear m0 m1 m2 m3 m4 m5 m6 m7 m8 m9 m10 m11 m12); obtain ⟨m0, m1, m2, m3, m4, m5, m6, m7, m8, m9, m10, m11, m12⟩ := cells13 HMB.out)
    | (go_at_call 28; (with_reducible refine (KHV.out _).mono ?_); rintro e2 wh ⟨rfl, ho⟩; replace HMB := hon HMB ho; replace HO := htr HO ho; clear ho; (try clear m0 m1 m2 m3 m4 m5 m6 m7 m8 m9 m10 m11 m12); obtain ⟨m0, m1, m2, m3, m4, m5, m6, m7, m8, m9, m10, m11, m12⟩ := cells13 HMB.out))
  go_upto_region 6 with (go_at_call 41; (with_reducible refine (KH.out _ (HT.out.only HO.out (by simp))).mono ?_); rintro e2 wb ⟨rfl, ho⟩; replace HMB := hon HMB ho; replace HO := htr HO ho; clear ho; (try clear m0 m1 m2 m3 m4 m5 m6 m7 m8 m9 m10 m11 m12))
  have HH := hide (Blk.new wb 84 #[.int .u32 (sn : Nat), .string p, .int .u64 (n : Nat), .string x4, .string pc, .string ph])
  replace HMB := hide (HMB.out.alloc (.cells #[.int .u32 (sn : Nat), .string p, .int .u64 (n : Nat), .string x4, .string pc, .string ph] 84))
  replace HO := hide (HO.out.alloc (.cells #[.int .u32 (sn : Nat), .string p, .int .u64 (n : Nat), .string x4, .string pc, .string ph] 84))
  generalize (wb.alloc (.cells #[.int .u32 (sn : Nat), .string p, .int .u64 (n : Nat), .string x4, .string pc, .string ph] 84)) = w2 at *
  obtain ⟨gh, hgh⟩ : ∃ g, g = wb.heap.size := ⟨_, rfl⟩
  rw [← hgh] at HH ⊢
  clear hgh
  obtain ⟨m0, m1, m2, m3, m4, m5, m6, m7, m8, m9, m10, m11, m12⟩ := cells13 HMB.out
  go_upto_region 7 with (go_at_call 43; (with_reducible refine (KR.out _).mono ?_); rintro e2 wc ⟨rfl, ho⟩; replace HMB := hon HMB ho; replace HH := hon HH ho; replace HO := htr HO ho; clear ho; (try clear m0 m1 m2 m3 m4 m5 m6 m7 m8 m9 m10 m11 m12))
  have HQ := hide (Blk.new wc 90 #[.string p, .int .u64 (n : Nat), .string pc, .string ph])
  replace HMB := hide (HMB.out.alloc (.cells #[.string p, .int .u64 (n : Nat), .string pc, .string ph] 90))
  replace HH := hide (HH.out.alloc (.cells #[.string p, .int .u64 (n : Nat), .string pc, .string ph] 90))
  replace HO := hide (HO.out.alloc (.cells #[.string p, .int .u64 (n : Nat), .string pc, .string ph] 90))
  generalize (wc.alloc (.cells #[.string p, .int .u64 (n : Nat), .string pc, .string ph] 90)) = w3 at *
  obtain ⟨gq, hgq⟩ : ∃ g, g = wc.heap.size := ⟨_, rfl⟩
  rw [← hgq] at HQ ⊢
  clear hgq
  obtain ⟨m0, m1, m2, m3, m4, m5, m6, m7, m8, m9, m10, m11, m12⟩ := cells13 HMB.out
  obtain ⟨y0, y1, y2, y3⟩ := cells4 HQ.out
  obtain ⟨x0, x1, x2, x3, x4, x5⟩ := cells6 HH.out
  go_wp2_with fail
  go_ret
  exact ⟨rfl, HO.out⟩
theorem noiseHears_law (sc : ByteArray) (hsc : sc.size ≤ maxLen) (m : Mg) (hF : m.Fine) (_hk : -9223372036854775808 ≤ m.k) (_hk2 : m.k ≤ 9223372036854775807) {w : World} (htab : Tab w) : Calls Tryz.prog 7 #[.string sc, .agg m.cells] w fun e' w' => e' = .returned (.bool true) ∧ Only [] w w' := by
  obtain ⟨k, sn, r, cc, x4, x5, x6, x7, x8, x9, x10, x11, x12⟩ := m
  cases hb : bigB [sc] with
  | true => exact ng_big w sc k sn r cc x4 x5 x6 x7 x8 x9 x10 x11 x12 hsc hF htab hb
  | false =>
    cases hv : heavyV (Mg.mk k sn r cc x4 x5 x6 x7 x8 x9 x10 x11 x12) 4000 with
    | true => exact ng_heavy w sc k sn r cc x4 x5 x6 x7 x8 x9 x10 x11 x12 hsc hF htab hb hv
    | false =>
      have hs := hear_same (big_no hb sc (by simp)) hv
      rcases heard_cases sc (Mg.mk k sn r cc x4 x5 x6 x7 x8 x9 x10 x11 x12) with ⟨k2, hk0, h2⟩ | ⟨p, n, pc, ph, h2⟩
      · exact ng_no w sc k sn r cc x4 x5 x6 x7 x8 x9 x10 x11 x12 hsc hF htab hb hv k2 hk0 (hs.trans h2) h2
      · exact ng_yes w sc k sn r cc x4 x5 x6 x7 x8 x9 x10 x11 x12 hsc hF htab hb hv p n pc ph (hs.trans h2) h2
end
end Go.Proofs.YtfipdjlalfpbnaaGreatDoor

/-
  Walks and plain words (texts Laid, Ms3, Ms4). No condition beyond those that each theorem states.
-/
import Derived.Test.YtfipdjlalfpbnaaGreatDoorRows
import Derived.Lib.LaidTab
import Derived.Deep.DeepLaidRun
import Derived.Stop.LaidErr
import Derived.LaidMore
import Derived.Test.YtfipdjlalfpbnaaGreatDoorM20
import Derived.Test.YtfipdjlalfpbnaaGreatDoorM35
namespace Go.Proofs.YtfipdjlalfpbnaaGreatDoor
section
open Go.RowKit Go.ChangeShapes Go.WideShapes Go.ChangeAt

theorem own_all : ownKnob Tryz.prog.godebug = none := by kernel_rfl
theorem laidOut_all : laidOutB Tryz.prog = true := by kernel_rfl
abbrev laidAll : List (String × DataW Unit) := [("math/bits.deBruijn32tab", Rows.laid_math_bits_deBruijn32tab), ("math/bits.deBruijn64tab", Rows.laid_math_bits_deBruijn64tab), ("internal/strconv.uint64pow10", Rows.laid_internal_strconv_uint64pow10)]

theorem tab_of_laid {W : World} (h : laidMetH Tryz.prog laidAll W) : Tab W := by
  rw [MakeChecks.laidMetH_plain _ _ _ (by kernel_rfl)] at h
  exact Lib.tabIs_of_head (g := 0) (t := 221) (e := 23) (n := 20) (rest := []) (by kernel_rfl) (by kernel_rfl) Tryz.underlying221 Tryz.underlying23 (by kernel_rfl) (by kernel_rfl) (laidMet.tail (laidMet.tail h))

theorem door_met (os : Os) (args : Array Value) : laidMetH Tryz.prog laidAll ((World.doorLaid Tryz.prog 400 os).forCall (fun _ _ => 0) ⟨#[], args, []⟩).memory := by
  rw [MakeChecks.laidMetH_plain _ _ _ (by kernel_rfl)]
  exact laidMet_of_run3 8 (by kernel_rfl) (by kernel_rfl) (by kernel_rfl)
end
section
open Go.RowKit Go.Deep

/-- What Accept tells. -/
noncomputable def acceptV (m : Mg) (p v : ByteArray) : ByteArray × Int :=
  if m.k ≠ 3 ∨ rightM m = false ∨ kindT m.x8 ≠ 3 ∨ kindT p ≠ 5 then (ByteArray.empty, 3)
  else if (openT m.x9 (jarT p) (valT m.x8).1 v).2 ≠ 0 then (ByteArray.empty, 8) else ((openT m.x9 (jarT p) (valT m.x8).1 v).1, 0)
theorem ms_read (w : World) (s : ByteArray) (hs : s.size ≤ maxLen) : Calls Tryz.prog 39 #[.string s] w fun e w' => ∃ A1 n1 c1 A2 n2 c2, e = .returned (.agg #[.int .i64 (whatV s).1, .int .u64 ((whatV s).2.1 : Nat), .slice A1 n1 c1, .slice A2 n2 c2]) ∧ Only [] w w' :=
  (readR_what w s hs).mono fun e w' ⟨bv, pv, h1, h2, h3, h4⟩ => by
    obtain ⟨A1, cap1, rfl, _, _⟩ := h3.formb
    obtain ⟨A2, cap2, rfl, _, _⟩ := h4.form
    exact ⟨_, _, _, _, _, _, h1, h2⟩
theorem ms_field0 (k : Int) : ∀ (n : Int) (A1 A2 : Option Addr) (n1 c1 n2 c2 : Nat) (W : World), (Instr.field 77 (.agg #[.int .i64 k, .int .u64 n, .slice A1 n1 c1, .slice A2 n2 c2]) 0).run Tryz.prog W = .ok (.int .i64 k) W := fun n A1 A2 n1 c1 n2 c2 W => by kernel_rfl
theorem ms_field1 (k n : Int) : ∀ (A1 A2 : Option Addr) (n1 c1 n2 c2 : Nat) (W : World), (Instr.field 77 (.agg #[.int .i64 k, .int .u64 n, .slice A1 n1 c1, .slice A2 n2 c2]) 1).run Tryz.prog W = .ok (.int .u64 n) W := fun A1 A2 n1 c1 n2 c2 W => by kernel_rfl
theorem three_texts {m : Mg} (h : m.k = 3) : (textsM m).length = 2 := by
  unfold textsM
  rw [if_neg (by omega), if_neg (by omega), if_pos h]
  rfl
theorem right_nine {m : Mg} (h : rightM m = true) (hk : m.k = 3) : m.x9.size ≤ 1000000 := by
  unfold rightM at h
  rw [Bool.and_eq_true, Bool.and_eq_true, List.all_eq_true] at h
  have h1 := h.2.1 m.x9 (by unfold textsM; rw [if_neg (by omega), if_neg (by omega), if_pos hk]; simp)
  have := (ms_fit_is h1).2
  unfold fitW at h1
  rw [Bool.and_eq_true, decide_eq_true_eq] at h1
  have := h1.1
  omega
set_option maxRecDepth 100000 in
set_option maxHeartbeats 12800000 in
theorem Accept_any (w : World) (m : Mg) (p v : ByteArray) (hF : m.Fine) (hp : p.size ≤ maxLen) (htab : Tab w) : Calls Tryz.prog 21 #[.agg m.cells, .string p, .string v] w (OpenPost (acceptV m p v) w) := by
  have HV1 := hide (fun (h : m.k ≠ 3 ∨ rightM m = false ∨ kindT m.x8 ≠ 3 ∨ kindT p ≠ 5) => show acceptV m p v = (ByteArray.empty, 3) by unfold acceptV; rw [if_pos h])
  have HV2 := hide (fun (h : ¬ (m.k ≠ 3 ∨ rightM m = false ∨ kindT m.x8 ≠ 3 ∨ kindT p ≠ 5)) => show acceptV m p v = if (openT m.x9 (jarT p) (valT m.x8).1 v).2 ≠ 0 then (ByteArray.empty, 8) else ((openT m.x9 (jarT p) (valT m.x8).1 v).1, 0) by unfold acceptV; rw [if_neg h])
  have HTM := hide (fun W => Terms_any W m hF)
  unfold TermsPost at HTM
  have HTL := hide (fun h => three_texts (m := m) h)
  have KN := hide (fun W => Kind_any W m.x8 hF.x8)
  have KP := hide (fun W => Kind_any W p hp)
  unfold KindPost at KN KP
  have KV := hide (fun W => Value_any W m.x8 hF.x8)
  unfold ValuePost at KV
  have KJ := hide (fun W ht => jar_any W p hp ht)
  unfold MakePost at KJ
  have KO := hide (fun W => Open_any W m.x9 (jarT p) v (valT m.x8).1 hF.x9)
  unfold OpenPost at KO
  obtain ⟨⟨n, nb⟩, hwn⟩ : ∃ q, valT m.x8 = q := ⟨_, rfl⟩
  rw [hwn] at HV2 KV KO
  simp only at HV2 KV KO
  clear hwn
  obtain ⟨⟨oc, oe⟩, hoc⟩ : ∃ q, openT m.x9 (jarT p) n v = q := ⟨_, rfl⟩
  rw [hoc] at HV2 KO
  simp only at HV2 KO
  clear hoc
  generalize kindT m.x8 = kn at *
  obtain ⟨tl, htl⟩ : ∃ q, textsM m = q := ⟨_, rfl⟩
  rw [htl] at HTM HTL
  clear htl
  generalize kindT p = kp at *
  generalize jarT p = jp at *
  generalize rightM m = rr at *
  generalize acceptV m p v = res at *
  obtain ⟨k, s, r, c, x4, x5, x6, x7, x8, x9, x10, x11, x12⟩ := m
  unfold Mg.cells at HTM ⊢
  simp only at HTM KN KO HV1 HV2 HTL KV ⊢
  have HMB := hide (Blk.new w 25 #[.int .i64 k, .int .u32 (s : Nat), .int .u32 (r : Nat), .int .u64 (c : Nat), .string x4, .string x5, .string x6, .string x7, .string x8, .string x9, .string x10, .string x11, .string x12])
  have HO := hide ((Only.refl [] w).alloc (.cells #[.int .i64 k, .int .u32 (s : Nat), .int .u32 (r : Nat), .int .u64 (c : Nat), .string x4, .string x5, .string x6, .string x7, .string x8, .string x9, .string x10, .string x11, .string x12] 25))
  have HT := hide htab
  clear hF hp htab
  go_enter Tryz.func21, Tryz.ntmps21
  go_upto_region 1 with fail
  generalize (w.alloc (.cells #[.int .i64 k, .int .u32 (s : Nat), .int .u32 (r : Nat), .int .u64 (c : Nat), .string x4, .string x5, .string x6, .string x7, .string x8, .string x9, .string x10, .string x11, .string x12] 25)) = v0 at *
  obtain ⟨m0, m1, m2, m3, m4, m5, m6, m7, m8, m9, m10, m11, m12⟩ := cells13 HMB.out
  by_cases hk : k = 3
  · cases rr with
    | false =>
      have HV := hide (HV1.out (.inr (.inl rfl)))
      have hkb : (k != 3) = false := by rw [bne_eq_false_iff_eq]; exact hk
      simp only [Bool.false_eq_true, if_false] at HTM
      clear hk HV1 HV2 HTL
      clear KO KJ KV
      go_wp2_with (first
        | (go_at_call 56; refine (HTM.out _).mono ?_; rintro e2 x1 ⟨ho, rfl⟩; replace HMB := hide (HMB.out.only ho (by simp)); replace HO := hide (HO.out.trans ho); clear ho m0 m1 m2 m3 m4 m5 m6 m7 m8 m9 m10 m11 m12; obtain ⟨m0, m1, m2, m3, m4, m5, m6, m7, m8, m9, m10, m11, m12⟩ := cells13 HMB.out))
      go_ret2
      exact ⟨by rw [HV.out]; rfl, HO.out⟩
    | true =>
      simp only [if_true] at HTM
      by_cases hn : kn = 3
      · by_cases hp5 : kp = 5
        · have HV := hide (HV2.out (fun h => h.elim (fun h => h hk) (fun h => h.elim (fun h => by cases h) (fun h => h.elim (fun h => h hn) (fun h => h hp5)))))
          clear HV1 HV2
          have hkb : (k != 3) = false := by rw [bne_eq_false_iff_eq]; exact hk
          have hnb : (kn != 3) = false := by rw [bne_eq_false_iff_eq]; exact hn
          have hpb : (kp != 5) = false := by rw [bne_eq_false_iff_eq]; exact hp5
          have HN2 := hide (HTL.out hk)
          clear hk hn hp5 HTL
          go_upto_region 4 with (first
            | (go_at_call 56; refine (HTM.out _).mono ?_; rintro e2 x1 ⟨ho, v1, rfl, hrd⟩; obtain ⟨A2, cp, hv, hcc, hmm⟩ := hrd.form; replace hv : v1 = .slice A2 2 cp := (by rw [hv, show (strc tl).length = tl.length by simp [strc], HN2.out]); subst hv; clear hrd hcc hmm; replace HMB := hide (HMB.out.only ho (by simp)); replace HO := hide (HO.out.trans ho); clear ho m0 m1 m2 m3 m4 m5 m6 m7 m8 m9 m10 m11 m12; obtain ⟨m0, m1, m2, m3, m4, m5, m6, m7, m8, m9, m10, m11, m12⟩ := cells13 HMB.out)
            | (go_at_call 51; (with_reducible refine (KN.out _).mono ?_); rintro e2 x2 ⟨rfl, ho⟩; replace HMB := hide (HMB.out.only ho (by simp)); replace HO := hide (HO.out.trans ho); clear ho m0 m1 m2 m3 m4 m5 m6 m7 m8 m9 m10 m11 m12; obtain ⟨m0, m1, m2, m3, m4, m5, m6, m7, m8, m9, m10, m11, m12⟩ := cells13 HMB.out)
            | (go_at_call 51; (with_reducible refine (KP.out _).mono ?_); rintro e2 x3 ⟨rfl, ho⟩; replace HMB := hide (HMB.out.only ho (by simp)); replace HO := hide (HO.out.trans ho); clear ho m0 m1 m2 m3 m4 m5 m6 m7 m8 m9 m10 m11 m12; obtain ⟨m0, m1, m2, m3, m4, m5, m6, m7, m8, m9, m10, m11, m12⟩ := cells13 HMB.out)
            | (go_at_call 62; refine (KV.out _).mono ?_; rintro e2 x4 ⟨rfl, ho⟩; replace HMB := hide (HMB.out.only ho (by simp)); replace HO := hide (HO.out.trans ho); clear ho m0 m1 m2 m3 m4 m5 m6 m7 m8 m9 m10 m11 m12; obtain ⟨m0, m1, m2, m3, m4, m5, m6, m7, m8, m9, m10, m11, m12⟩ := cells13 HMB.out))
          rename World => v4
          clear m0 m1 m2 m3 m4 m5 m6 m7 m8 m9 m10 m11 m12
          refine wp_region_held_drew (S := fun W => Only [] v4 W) (by kernel_rfl) (by exact (Only.refl [] v4).drew) (fun hHeld => ?_); generalize v4.drew = wd4 at *
          refine tk 0 ?_; refine tk 1 ?_ (hy := by (intro w hSw; (try dsimp only at hSw); have HMw := HMB.out.only hSw (by simp); obtain ⟨-, -, -, -, -, -, -, -, -, m9, -⟩ := cells13 HMw; clear HMw; go_simp; try with_reducible rfl))
          refine tk 2 ?_; refine tk 4 ?_; refine tk 5 ?_; refine wpAnyH_ready (rs := [3]) (by kernel_rfl) (by simp) ?_; refine (AllReadyH.cons rfl (fun K hK => ?_) AllReadyH.nil); go_simp
          (go_at_call 64; refine (KJ.out _ (HT.out.only (HO.out.trans hHeld) (by simp))).mono ?_; rintro e2 w3 ⟨rfl, ho⟩)
          refine hK.out _ _ (by first | exact hHeld.trans ho | exact hHeld.trans (ho.mono (by simp))) (fun hN => ?_); clear hK K ho hHeld; have hHeld := hN; clear hN; (try simp only [zsa, zsb, zsc, Act.put, zsd, zse, zsf])
          refine wpAnyH_ready (rs := [6]) (by kernel_rfl) (by simp) ?_; refine (AllReadyH.cons rfl (fun K hK => ?_) AllReadyH.nil); go_simp; (go_at_call 63; refine (KO.out _).mono ?_; rintro e2 w6 ⟨rfl, ho⟩)
          refine hK.out _ _ (by first | exact hHeld.trans ho | exact hHeld.trans (ho.mono (by simp))) (fun hN => ?_); clear hK K ho hHeld; have hHeld := hN; clear hN; (try simp only [zsa, zsb, zsc, Act.put, zsd, zse, zsf])
          refine tk 7 ?_; refine tk 8 ?_; refine tk 9 ?_; refine tk 10 ?_; refine tk 11 ?_; refine wpAnyH_done (by kernel_rfl) ?_ _
          replace HO := hide (HO.out.trans hHeld)
          clear hHeld
          rcases Decidable.em (oe = 0) with ho0 | ho0
          · have hob : (oe != 0) = false := by rw [bne_eq_false_iff_eq]; exact ho0
            rw [if_neg (fun h => h ho0)] at HV
            clear ho0
            go_wp2_with fail
            go_ret2
            exact ⟨by rw [HV.out]; rfl, HO.out⟩
          · have hob : (oe != 0) = true := by rw [bne_iff_ne]; exact ho0
            rw [if_pos ho0] at HV
            clear ho0
            go_wp2_with fail
            go_ret2
            exact ⟨by rw [HV.out]; rfl, HO.out⟩
        · have HV := hide (HV1.out (.inr (.inr (.inr hp5))))
          have hkb : (k != 3) = false := by rw [bne_eq_false_iff_eq]; exact hk
          have hnb : (kn != 3) = false := by rw [bne_eq_false_iff_eq]; exact hn
          have hpb : (kp != 5) = true := by rw [bne_iff_ne]; exact hp5
          have HN2 := hide (HTL.out hk)
          clear hk hn hp5 HV1 HV2 HTL
          clear KO KJ KV
          go_wp2_with (first
            | (go_at_call 56; refine (HTM.out _).mono ?_; rintro e2 x1 ⟨ho, v1, rfl, hrd⟩; obtain ⟨A2, cp, hv, hcc, hmm⟩ := hrd.form; replace hv : v1 = .slice A2 2 cp := (by rw [hv, show (strc tl).length = tl.length by simp [strc], HN2.out]); subst hv; clear hrd hcc hmm; replace HMB := hide (HMB.out.only ho (by simp)); replace HO := hide (HO.out.trans ho); clear ho m0 m1 m2 m3 m4 m5 m6 m7 m8 m9 m10 m11 m12; obtain ⟨m0, m1, m2, m3, m4, m5, m6, m7, m8, m9, m10, m11, m12⟩ := cells13 HMB.out)
            | (go_at_call 51; (with_reducible refine (KN.out _).mono ?_); rintro e2 x2 ⟨rfl, ho⟩; replace HMB := hide (HMB.out.only ho (by simp)); replace HO := hide (HO.out.trans ho); clear ho m0 m1 m2 m3 m4 m5 m6 m7 m8 m9 m10 m11 m12; obtain ⟨m0, m1, m2, m3, m4, m5, m6, m7, m8, m9, m10, m11, m12⟩ := cells13 HMB.out)
            | (go_at_call 51; (with_reducible refine (KP.out _).mono ?_); rintro e2 x3 ⟨rfl, ho⟩; replace HMB := hide (HMB.out.only ho (by simp)); replace HO := hide (HO.out.trans ho); clear ho m0 m1 m2 m3 m4 m5 m6 m7 m8 m9 m10 m11 m12; obtain ⟨m0, m1, m2, m3, m4, m5, m6, m7, m8, m9, m10, m11, m12⟩ := cells13 HMB.out))
          go_ret2
          exact ⟨by rw [HV.out]; rfl, HO.out⟩
      · have HV := hide (HV1.out (.inr (.inr (.inl hn))))
        have hkb : (k != 3) = false := by rw [bne_eq_false_iff_eq]; exact hk
        have hnb : (kn != 3) = true := by rw [bne_iff_ne]; exact hn
        have HN2 := hide (HTL.out hk)
        clear hk hn HV1 HV2 HTL
        clear KO KJ KV
        go_wp2_with (first
          | (go_at_call 56; refine (HTM.out _).mono ?_; rintro e2 x1 ⟨ho, v1, rfl, hrd⟩; obtain ⟨A2, cp, hv, hcc, hmm⟩ := hrd.form; replace hv : v1 = .slice A2 2 cp := (by rw [hv, show (strc tl).length = tl.length by simp [strc], HN2.out]); subst hv; clear hrd hcc hmm; replace HMB := hide (HMB.out.only ho (by simp)); replace HO := hide (HO.out.trans ho); clear ho m0 m1 m2 m3 m4 m5 m6 m7 m8 m9 m10 m11 m12; obtain ⟨m0, m1, m2, m3, m4, m5, m6, m7, m8, m9, m10, m11, m12⟩ := cells13 HMB.out)
          | (go_at_call 51; (with_reducible refine (KN.out _).mono ?_); rintro e2 x2 ⟨rfl, ho⟩; replace HMB := hide (HMB.out.only ho (by simp)); replace HO := hide (HO.out.trans ho); clear ho m0 m1 m2 m3 m4 m5 m6 m7 m8 m9 m10 m11 m12; obtain ⟨m0, m1, m2, m3, m4, m5, m6, m7, m8, m9, m10, m11, m12⟩ := cells13 HMB.out))
        go_ret2
        exact ⟨by rw [HV.out]; rfl, HO.out⟩
  · have HV := hide (HV1.out (.inl hk))
    have hkb : (k != 3) = true := by rw [bne_iff_ne]; exact hk
    clear hk HV1 HV2 HTL
    clear KO KJ KV
    go_wp2_with fail
    go_ret2
    exact ⟨by rw [HV.out]; rfl, HO.out⟩
end
section
open Go.RowKit Go.Deep

set_option maxRecDepth 100000 in
set_option maxHeartbeats 12800000 in
theorem AcceptR_any (w : World) (m : Mg) (p v : ByteArray) (hF : m.Fine) (hp : p.size ≤ maxLen) : Calls Tryz.prog 22 #[.agg m.cells, .string p, .string v] w (OpenPost (acceptV m p v) w) := by
  have HV1 := hide (fun (h : m.k ≠ 3 ∨ rightM m = false ∨ kindT m.x8 ≠ 3 ∨ kindT p ≠ 5) => show acceptV m p v = (ByteArray.empty, 3) by unfold acceptV; rw [if_pos h])
  have HV2 := hide (fun (h : ¬ (m.k ≠ 3 ∨ rightM m = false ∨ kindT m.x8 ≠ 3 ∨ kindT p ≠ 5)) => show acceptV m p v = if (openT m.x9 (jarT p) (valT m.x8).1 v).2 ≠ 0 then (ByteArray.empty, 8) else ((openT m.x9 (jarT p) (valT m.x8).1 v).1, 0) by unfold acceptV; rw [if_neg h])
  have HVN : (valT m.x8).1 = (whatV m.x8).2.1 := by rw [what_val]
  rw [HVN] at HV2
  clear HVN
  have HTM := hide (fun W => RightR_any W m hF)
  unfold RetB at HTM
  have KN := hide (fun W => ms_read W m.x8 hF.x8)
  have KP := hide (fun W => Pub_any W p hp)
  unfold RetB at KP
  have KJ := hide (fun W G hG => hashR_new2 W G hG ⟨#[120, 54, 51, 54, 102, 54, 102, 54, 98, 54, 57, 54, 53]⟩ p (by unfold maxLen; show 13 ≤ _; omega) hp)
  change Hid (∀ W G hG, Calls _ _ _ _ (MakePost (jarT p) W)) at KJ
  unfold MakePost at KJ
  have KO := hide (fun (h : m.x9.size ≤ 1000000) W => OpenR_any W m.x9 (jarT p) v (whatV m.x8).2.1 h)
  unfold OpenPost at KO
  have H9 := hide (fun h hk => right_nine (m := m) h hk)
  rw [what_kind] at HV1 HV2
  obtain ⟨⟨kn, n, nb, nl⟩, hwn⟩ : ∃ q, whatV m.x8 = q := ⟨_, rfl⟩
  rw [hwn] at HV1 HV2 KN KO
  simp only at HV1 HV2 KN KO
  clear hwn
  obtain ⟨⟨oc, oe⟩, hoc⟩ : ∃ q, openT m.x9 (jarT p) n v = q := ⟨_, rfl⟩
  rw [hoc] at HV2 KO
  simp only at HV2 KO
  clear hoc
  generalize kindT p = kp at *
  generalize jarT p = jp at *
  generalize rightM m = rr at *
  generalize acceptV m p v = res at *
  obtain ⟨k, s, r, c, x4, x5, x6, x7, x8, x9, x10, x11, x12⟩ := m
  unfold Mg.cells at HTM ⊢
  simp only at HTM KN KO HV1 HV2 H9 ⊢
  have HMB := hide (Blk.new w 25 #[.int .i64 k, .int .u32 (s : Nat), .int .u32 (r : Nat), .int .u64 (c : Nat), .string x4, .string x5, .string x6, .string x7, .string x8, .string x9, .string x10, .string x11, .string x12])
  have HO := hide ((Only.refl [] w).alloc (.cells #[.int .i64 k, .int .u32 (s : Nat), .int .u32 (r : Nat), .int .u64 (c : Nat), .string x4, .string x5, .string x6, .string x7, .string x8, .string x9, .string x10, .string x11, .string x12] 25))
  clear hF hp
  go_enter Tryz.func22, Tryz.ntmps22
  go_upto_region 1 with fail
  generalize (w.alloc (.cells #[.int .i64 k, .int .u32 (s : Nat), .int .u32 (r : Nat), .int .u64 (c : Nat), .string x4, .string x5, .string x6, .string x7, .string x8, .string x9, .string x10, .string x11, .string x12] 25)) = v0 at *
  obtain ⟨m0, m1, m2, m3, m4, m5, m6, m7, m8, m9, m10, m11, m12⟩ := cells13 HMB.out
  by_cases hk : k = 3
  · cases rr with
    | false =>
      have HV := hide (HV1.out (.inr (.inl rfl)))
      have hkb : (k != 3) = false := by rw [bne_eq_false_iff_eq]; exact hk
      clear hk HV1 HV2 H9
      clear KO KJ
      go_wp2_with (first
        | (go_at_call 49; refine (HTM.out _).mono ?_; rintro e2 x1 ⟨rfl, ho⟩; replace HMB := hide (HMB.out.only ho (by simp)); replace HO := hide (HO.out.trans ho); clear ho m0 m1 m2 m3 m4 m5 m6 m7 m8 m9 m10 m11 m12; obtain ⟨m0, m1, m2, m3, m4, m5, m6, m7, m8, m9, m10, m11, m12⟩ := cells13 HMB.out))
      go_ret2
      exact ⟨by rw [HV.out]; rfl, HO.out⟩
    | true =>
      by_cases hn : kn = 3
      · by_cases hp5 : kp = 5
        · have HV := hide (HV2.out (fun h => h.elim (fun h => h hk) (fun h => h.elim (fun h => by cases h) (fun h => h.elim (fun h => h hn) (fun h => h hp5)))))
          clear HV1 HV2
          replace KO := hide (KO.out (H9.out rfl hk))
          clear H9
          have hkb : (k != 3) = false := by rw [bne_eq_false_iff_eq]; exact hk
          have hfd := ms_field0 kn
          rw [hn] at KN hfd
          have hpd : decide (kp = 5) = true := decide_eq_true hp5
          clear hk hn hp5
          have hnb : ((3 : Int) != 3) = false := rfl
          rw [hpd] at KP
          go_upto_region 4 with (first
            | (go_at_call 49; refine (HTM.out _).mono ?_; rintro e2 x1 ⟨rfl, ho⟩; replace HMB := hide (HMB.out.only ho (by simp)); replace HO := hide (HO.out.trans ho); clear ho m0 m1 m2 m3 m4 m5 m6 m7 m8 m9 m10 m11 m12; obtain ⟨m0, m1, m2, m3, m4, m5, m6, m7, m8, m9, m10, m11, m12⟩ := cells13 HMB.out)
            | (go_at_call 39; refine (KN.out _).mono ?_; rintro e2 x2 ⟨A1, n1, c1, A2, n2, c2, rfl, ho⟩; replace HMB := hide (HMB.out.only ho (by simp)); replace HO := hide (HO.out.trans ho); clear ho m0 m1 m2 m3 m4 m5 m6 m7 m8 m9 m10 m11 m12; obtain ⟨m0, m1, m2, m3, m4, m5, m6, m7, m8, m9, m10, m11, m12⟩ := cells13 HMB.out)
            | (go_at_call 15; refine (KP.out _).mono ?_; rintro e2 x3 ⟨rfl, ho⟩; replace HMB := hide (HMB.out.only ho (by simp)); replace HO := hide (HO.out.trans ho); clear ho m0 m1 m2 m3 m4 m5 m6 m7 m8 m9 m10 m11 m12; obtain ⟨m0, m1, m2, m3, m4, m5, m6, m7, m8, m9, m10, m11, m12⟩ := cells13 HMB.out)
            | (go_at_call 59; refine (KJ.out _ _ rfl).mono ?_; rintro e2 x4 ⟨rfl, ho⟩; replace HMB := hide (HMB.out.only ho (by simp)); replace HO := hide (HO.out.trans ho); clear ho m0 m1 m2 m3 m4 m5 m6 m7 m8 m9 m10 m11 m12; obtain ⟨m0, m1, m2, m3, m4, m5, m6, m7, m8, m9, m10, m11, m12⟩ := cells13 HMB.out))
          rename World => v4
          clear m0 m1 m2 m3 m4 m5 m6 m7 m8 m9 m10 m11 m12
          refine wp_region_held_drew (S := fun W => Only [] v4 W) (by kernel_rfl) (by exact (Only.refl [] v4).drew) (fun hHeld => ?_); generalize v4.drew = wd4 at *
          refine tk 0 ?_; refine tk 1 ?_ (hy := by (intro w hSw; (try dsimp only at hSw); have HMw := HMB.out.only hSw (by simp); obtain ⟨-, -, -, -, -, -, -, -, -, m9, -⟩ := cells13 HMw; clear HMw; go_simp; try with_reducible rfl))
          refine tk 2 ?_; refine tk 3 ?_
          refine tk 4 ?_ (hy := by (intro w hSw; (try dsimp only at hSw); have HMw := HMB.out.only hSw (by simp); obtain ⟨-, -, -, -, -, -, -, -, m8, -⟩ := cells13 HMw; clear HMw; go_simp; try with_reducible rfl)); refine tk 7 ?_
          refine wpAnyH_ready (rs := [5]) (by kernel_rfl) (by simp) ?_; refine (AllReadyH.cons rfl (fun K hK => ?_) AllReadyH.nil); go_simp
          (go_at_call 39; refine (KN.out _).mono ?_; rintro e2 w5 ⟨A1, n1, c1, A2, n2, c2, rfl, ho⟩; have hf1 := ms_field1 3 n)
          refine hK.out _ _ (by first | exact hHeld.trans ho | exact hHeld.trans (ho.mono (by simp))) (fun hN => ?_); clear hK K ho hHeld; have hHeld := hN; clear hN; (try simp only [zsa, zsb, zsc, Act.put, zsd, zse, zsf])
          refine tk 6 ?_; refine wpAnyH_ready (rs := [8]) (by kernel_rfl) (by simp) ?_; refine (AllReadyH.cons rfl (fun K hK => ?_) AllReadyH.nil); go_simp
          (go_at_call 65; refine (KO.out _).mono ?_; rintro e2 w8 ⟨rfl, ho⟩); refine hK.out _ _ (by first | exact hHeld.trans ho | exact hHeld.trans (ho.mono (by simp))) (fun hN => ?_); clear hK K ho hHeld
          have hHeld := hN; clear hN; (try simp only [zsa, zsb, zsc, Act.put, zsd, zse, zsf]); refine tk 9 ?_; refine tk 10 ?_; refine tk 11 ?_; refine tk 12 ?_; refine tk 13 ?_; refine wpAnyH_done (by kernel_rfl) ?_ _
          replace HO := hide (HO.out.trans hHeld)
          clear hHeld
          rcases Decidable.em (oe = 0) with ho0 | ho0
          · have hob : (oe != 0) = false := by rw [bne_eq_false_iff_eq]; exact ho0
            rw [if_neg (fun h => h ho0)] at HV
            clear ho0
            go_wp2_with fail
            go_ret2
            exact ⟨by rw [HV.out]; rfl, HO.out⟩
          · have hob : (oe != 0) = true := by rw [bne_iff_ne]; exact ho0
            rw [if_pos ho0] at HV
            clear ho0
            go_wp2_with fail
            go_ret2
            exact ⟨by rw [HV.out]; rfl, HO.out⟩
        · have HV := hide (HV1.out (.inr (.inr (.inr hp5))))
          have hkb : (k != 3) = false := by rw [bne_eq_false_iff_eq]; exact hk
          have hfd := ms_field0 kn
          rw [hn] at KN hfd
          have hnb : ((3 : Int) != 3) = false := rfl
          have hpd : decide (kp = 5) = false := decide_eq_false hp5
          rw [hpd] at KP
          clear hk hn hp5 HV1 HV2 H9 hpd
          clear KO KJ
          go_wp2_with (first
            | (go_at_call 49; refine (HTM.out _).mono ?_; rintro e2 x1 ⟨rfl, ho⟩; replace HMB := hide (HMB.out.only ho (by simp)); replace HO := hide (HO.out.trans ho); clear ho m0 m1 m2 m3 m4 m5 m6 m7 m8 m9 m10 m11 m12; obtain ⟨m0, m1, m2, m3, m4, m5, m6, m7, m8, m9, m10, m11, m12⟩ := cells13 HMB.out)
            | (go_at_call 39; refine (KN.out _).mono ?_; rintro e2 x2 ⟨A1, n1, c1, A2, n2, c2, rfl, ho⟩; replace HMB := hide (HMB.out.only ho (by simp)); replace HO := hide (HO.out.trans ho); clear ho m0 m1 m2 m3 m4 m5 m6 m7 m8 m9 m10 m11 m12; obtain ⟨m0, m1, m2, m3, m4, m5, m6, m7, m8, m9, m10, m11, m12⟩ := cells13 HMB.out)
            | (go_at_call 15; refine (KP.out _).mono ?_; rintro e2 x3 ⟨rfl, ho⟩; replace HMB := hide (HMB.out.only ho (by simp)); replace HO := hide (HO.out.trans ho); clear ho m0 m1 m2 m3 m4 m5 m6 m7 m8 m9 m10 m11 m12; obtain ⟨m0, m1, m2, m3, m4, m5, m6, m7, m8, m9, m10, m11, m12⟩ := cells13 HMB.out))
          go_ret2
          exact ⟨by rw [HV.out]; rfl, HO.out⟩
      · have HV := hide (HV1.out (.inr (.inr (.inl hn))))
        have hkb : (k != 3) = false := by rw [bne_eq_false_iff_eq]; exact hk
        have hnb : (kn != 3) = true := by rw [bne_iff_ne]; exact hn
        have hfd := ms_field0 kn
        clear hk hn HV1 HV2 H9
        clear KO KJ
        go_wp2_with (first
          | (go_at_call 49; refine (HTM.out _).mono ?_; rintro e2 x1 ⟨rfl, ho⟩; replace HMB := hide (HMB.out.only ho (by simp)); replace HO := hide (HO.out.trans ho); clear ho m0 m1 m2 m3 m4 m5 m6 m7 m8 m9 m10 m11 m12; obtain ⟨m0, m1, m2, m3, m4, m5, m6, m7, m8, m9, m10, m11, m12⟩ := cells13 HMB.out)
          | (go_at_call 39; refine (KN.out _).mono ?_; rintro e2 x2 ⟨A1, n1, c1, A2, n2, c2, rfl, ho⟩; replace HMB := hide (HMB.out.only ho (by simp)); replace HO := hide (HO.out.trans ho); clear ho m0 m1 m2 m3 m4 m5 m6 m7 m8 m9 m10 m11 m12; obtain ⟨m0, m1, m2, m3, m4, m5, m6, m7, m8, m9, m10, m11, m12⟩ := cells13 HMB.out))
        go_ret2
        exact ⟨by rw [HV.out]; rfl, HO.out⟩
  · have HV := hide (HV1.out (.inl hk))
    have hkb : (k != 3) = true := by rw [bne_iff_ne]; exact hk
    clear hk HV1 HV2 H9
    clear KO KJ
    go_wp2_with fail
    go_ret2
    exact ⟨by rw [HV.out]; rfl, HO.out⟩
end
end Go.Proofs.YtfipdjlalfpbnaaGreatDoor

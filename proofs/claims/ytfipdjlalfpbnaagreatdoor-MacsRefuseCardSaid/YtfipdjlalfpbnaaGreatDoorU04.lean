/-
  Walks and plain words (texts Ms11). No condition beyond those that each theorem states.
-/
import Derived.Test.YtfipdjlalfpbnaaGreatDoorM38
import Derived.Test.YtfipdjlalfpbnaaGreatDoorU01
import Derived.Test.YtfipdjlalfpbnaaGreatDoorU03
namespace Go.Proofs.YtfipdjlalfpbnaaGreatDoor
section
open Go.RowKit Go.Deep

set_option maxRecDepth 100000 in
set_option maxHeartbeats 12800000 in
theorem mr_big (w : World) (m : Mg) (p c2 o : ByteArray) (n : Nat) (hF : m.Fine) (hk0 : -9223372036854775808 ≤ m.k) (_hp : p.size ≤ maxLen) (_hc : c2.size ≤ maxLen) (_ho3 : o.size ≤ maxLen) (_hn : n < 18446744073709551616) (htab : Tab w) (HB : Hid (∀ (w : World) (G : Nat), G = w.heap.size → Calls Tryz.prog 11 #[.agg m.cells, .slice (some ⟨G, 0, none⟩) 3 3] (w.alloc (.cells #[.string p, .string c2, .string o] 9)) (RetB true w))) : Calls Tryz.prog 4 #[.agg m.cells, .string p, .string c2, .string o, .int .u64 (n : Nat)] w (RetB true w) := by
  have HAW := hide (fun W ht => awake11 W ht)
  unfold RetB at HAW HB
  have HT := hide htab
  obtain ⟨k, s, r, c, x4, x5, x6, x7, x8, x9, x10, x11, x12⟩ := m
  unfold Mg.cells at HB ⊢
  simp only at HB ⊢
  have HMB := hide (Blk.new w 25 #[.int .i64 k, .int .u32 (s : Nat), .int .u32 (r : Nat), .int .u64 (c : Nat), .string x4, .string x5, .string x6, .string x7, .string x8, .string x9, .string x10, .string x11, .string x12])
  have HO := hide ((Only.refl [] w).alloc (.cells #[.int .i64 k, .int .u32 (s : Nat), .int .u32 (r : Nat), .int .u64 (c : Nat), .string x4, .string x5, .string x6, .string x7, .string x8, .string x9, .string x10, .string x11, .string x12] 25))
  replace HT := hide (HT.out.only HO.out (by simp))
  clear htab hF hk0 _hp _hc _ho3 _hn
  go_enter Tryz.func4, Tryz.ntmps4
  go_upto_region 1 with fail
  generalize (w.alloc (.cells #[.int .i64 k, .int .u32 (s : Nat), .int .u32 (r : Nat), .int .u64 (c : Nat), .string x4, .string x5, .string x6, .string x7, .string x8, .string x9, .string x10, .string x11, .string x12] 25)) = v0 at *
  obtain ⟨m0, m1, m2, m3, m4, m5, m6, m7, m8, m9, m10, m11, m12⟩ := cells13 HMB.out
  go_wp2_with (first
    | (go_at_call 10; (refine (HAW.out _ HT.out).mono ?_); rintro e2 w1 ⟨rfl, ho⟩; replace HMB := hide (HMB.out.only ho (by simp)); replace HT := hide (HT.out.only ho (by simp)); replace HO := hide (HO.out.trans ho); clear ho; (first | (clear m0 m1 m2 m3 m4 m5 m6 m7 m8 m9 m10 m11 m12) | skip); obtain ⟨m0, m1, m2, m3, m4, m5, m6, m7, m8, m9, m10, m11, m12⟩ := cells13 HMB.out)
    | (go_at_call 11; (refine (HB.out _ _ rfl).mono ?_); rintro e2 w2 ⟨rfl, ho⟩; replace HMB := hide (HMB.out.only ho (by simp)); replace HT := hide (HT.out.only ho (by simp)); replace HO := hide (HO.out.trans ho); clear ho; (first | (clear m0 m1 m2 m3 m4 m5 m6 m7 m8 m9 m10 m11 m12) | skip); obtain ⟨m0, m1, m2, m3, m4, m5, m6, m7, m8, m9, m10, m11, m12⟩ := cells13 HMB.out))
  go_ret
  exact retb rfl HO.out
set_option maxRecDepth 100000 in
set_option maxHeartbeats 12800000 in
theorem mr_no (w : World) (m : Mg) (p c2 o : ByteArray) (n : Nat) (hF : m.Fine) (hk0 : -9223372036854775808 ≤ m.k) (hp : p.size ≤ maxLen) (hc : c2.size ≤ maxLen) (_ho3 : o.size ≤ maxLen) (hn : n < 18446744073709551616) (htab : Tab w) (HB : Hid (∀ (w : World) (G : Nat), G = w.heap.size → Calls Tryz.prog 11 #[.agg m.cells, .slice (some ⟨G, 0, none⟩) 3 3] (w.alloc (.cells #[.string p, .string c2, .string o] 9)) (RetB false w))) (hok : okRef m p c2 = false) : Calls Tryz.prog 4 #[.agg m.cells, .string p, .string c2, .string o, .int .u64 (n : Nat)] w (RetB true w) := by
  have HAW := hide (fun W ht => awake11 W ht)
  have HA1 := hide (fun W ht => Accept_any W m p o hF hp ht)
  have HB1 := hide (fun W => AcceptR_any W m p o hF hp)
  have HRF := hide (fun W ht => Refuse_any W m p c2 n hF hk0 hp hc hn ht)
  have HAS := hide (fun W => Asks_any W m hF)
  have HPU := hide (fun W => Pub_any W p hp)
  have HIS := hide (fun W => isR_kind W c2 hc)
  unfold RetB at HAW HAS HPU HIS HB
  unfold OpenPost at HA1 HB1
  unfold SignPost at HRF
  obtain ⟨⟨ac, ae⟩, hac⟩ : ∃ q, acceptV m p o = q := ⟨_, rfl⟩
  rw [hac] at HA1 HB1
  simp only at HA1 HB1
  clear hac
  rw [show refuseV m p c2 n = (3, zeroG) by unfold refuseV; rw [if_neg (by rw [hok]; decide)]] at HRF
  unfold okRef at hok
  have HEQ := ms_eql zeroG
  unfold zeroG Mg.cells noT at HEQ HRF
  generalize startsM m = a at *
  generalize decide (kindT p = 5) = bp at *
  generalize decide (kindT c2 ≠ 0) = bc at *
  have HOK := hide hok
  clear hok
  have HT := hide htab
  obtain ⟨k, s, r, c, x4, x5, x6, x7, x8, x9, x10, x11, x12⟩ := m
  unfold Mg.cells at HA1 HB1 HAS HB ⊢
  simp only at HA1 HB1 HAS HB HRF ⊢
  have HMB := hide (Blk.new w 25 #[.int .i64 k, .int .u32 (s : Nat), .int .u32 (r : Nat), .int .u64 (c : Nat), .string x4, .string x5, .string x6, .string x7, .string x8, .string x9, .string x10, .string x11, .string x12])
  have HO := hide ((Only.refl [] w).alloc (.cells #[.int .i64 k, .int .u32 (s : Nat), .int .u32 (r : Nat), .int .u64 (c : Nat), .string x4, .string x5, .string x6, .string x7, .string x8, .string x9, .string x10, .string x11, .string x12] 25))
  replace HT := hide (HT.out.only HO.out (by simp))
  clear htab hF hk0 hp hc _ho3 hn
  go_enter Tryz.func4, Tryz.ntmps4
  go_upto_region 1 with fail
  generalize (w.alloc (.cells #[.int .i64 k, .int .u32 (s : Nat), .int .u32 (r : Nat), .int .u64 (c : Nat), .string x4, .string x5, .string x6, .string x7, .string x8, .string x9, .string x10, .string x11, .string x12] 25)) = v0 at *
  obtain ⟨m0, m1, m2, m3, m4, m5, m6, m7, m8, m9, m10, m11, m12⟩ := cells13 HMB.out
  have qa : (ac.toList == ac.toList) = true := beq_self_eq_true _
  have qb : (ae == ae) = true := beq_self_eq_true _
  have qc : (ae != ae) = false := by rw [bne_eq_false_iff_eq]
  go_upto_region 10 with (first
    | (go_at_call 10; (refine (HAW.out _ HT.out).mono ?_); rintro e2 w1 ⟨rfl, ho⟩; replace HMB := hide (HMB.out.only ho (by simp)); replace HT := hide (HT.out.only ho (by simp)); replace HO := hide (HO.out.trans ho); clear ho; (first | (clear m0 m1 m2 m3 m4 m5 m6 m7 m8 m9 m10 m11 m12) | skip); obtain ⟨m0, m1, m2, m3, m4, m5, m6, m7, m8, m9, m10, m11, m12⟩ := cells13 HMB.out)
    | (go_at_call 11; (refine (HB.out _ _ rfl).mono ?_); rintro e2 w2 ⟨rfl, ho⟩; replace HMB := hide (HMB.out.only ho (by simp)); replace HT := hide (HT.out.only ho (by simp)); replace HO := hide (HO.out.trans ho); clear ho; (first | (clear m0 m1 m2 m3 m4 m5 m6 m7 m8 m9 m10 m11 m12) | skip); obtain ⟨m0, m1, m2, m3, m4, m5, m6, m7, m8, m9, m10, m11, m12⟩ := cells13 HMB.out)
    | (go_at_call 21; (refine (HA1.out _ HT.out).mono ?_); rintro e2 w4 ⟨rfl, ho⟩; replace HMB := hide (HMB.out.only ho (by simp)); replace HT := hide (HT.out.only ho (by simp)); replace HO := hide (HO.out.trans ho); clear ho; (first | (clear m0 m1 m2 m3 m4 m5 m6 m7 m8 m9 m10 m11 m12) | skip); obtain ⟨m0, m1, m2, m3, m4, m5, m6, m7, m8, m9, m10, m11, m12⟩ := cells13 HMB.out)
    | (go_at_call 22; (refine (HB1.out _).mono ?_); rintro e2 w5 ⟨rfl, ho⟩; replace HMB := hide (HMB.out.only ho (by simp)); replace HT := hide (HT.out.only ho (by simp)); replace HO := hide (HO.out.trans ho); clear ho; (first | (clear m0 m1 m2 m3 m4 m5 m6 m7 m8 m9 m10 m11 m12) | skip); obtain ⟨m0, m1, m2, m3, m4, m5, m6, m7, m8, m9, m10, m11, m12⟩ := cells13 HMB.out)
    | (go_at_call 23; refine (HRF.out _ HT.out).mono ?_; rintro e2 w3 ⟨rfl, ho⟩; have HSB := hide (Blk.new w3 25 #[.int .i64 0, .int .u32 0, .int .u32 0, .int .u64 0, .string ⟨#[]⟩, .string ⟨#[]⟩, .string ⟨#[]⟩, .string ⟨#[]⟩, .string ⟨#[]⟩, .string ⟨#[]⟩, .string ⟨#[]⟩, .string ⟨#[]⟩, .string ⟨#[]⟩]); replace ho := ho.alloc (.cells #[.int .i64 0, .int .u32 0, .int .u32 0, .int .u64 0, .string ⟨#[]⟩, .string ⟨#[]⟩, .string ⟨#[]⟩, .string ⟨#[]⟩, .string ⟨#[]⟩, .string ⟨#[]⟩, .string ⟨#[]⟩, .string ⟨#[]⟩, .string ⟨#[]⟩] 25); replace HMB := hide (HMB.out.only ho (by simp)); replace HT := hide (HT.out.only ho (by simp)); replace HO := hide (HO.out.trans ho); clear ho))
  generalize (w3.alloc (.cells #[.int .i64 0, .int .u32 0, .int .u32 0, .int .u64 0, .string ⟨#[]⟩, .string ⟨#[]⟩, .string ⟨#[]⟩, .string ⟨#[]⟩, .string ⟨#[]⟩, .string ⟨#[]⟩, .string ⟨#[]⟩, .string ⟨#[]⟩, .string ⟨#[]⟩] 25)) = v5 at *
  clear m0 m1 m2 m3 m4 m5 m6 m7 m8 m9 m10 m11 m12
  obtain ⟨m0, m1, m2, m3, m4, m5, m6, m7, m8, m9, m10, m11, m12⟩ := cells13 HMB.out
  clear HAW HRF HB HA1 HB1
  go_cut [71] (fun cv w' => cv = .bool true ∧ Hid (Only [] v5 w'))
  case first =>
    as_aux_lemma =>
      have HP := hide (Only.refl [] v5)
      cases a
      · go_wp2_with (first
        | (go_at_call 13; (with_reducible refine (HAS.out _).mono ?_); rintro e2 x1 ⟨rfl, ho⟩; replace HMB := hide (HMB.out.only ho (by simp)); replace HSB := hide (HSB.out.only ho (by simp)); replace HT := hide (HT.out.only ho (by simp)); replace HP := hide (HP.out.trans ho); clear ho)
        | (go_at_call 15; (with_reducible refine (HPU.out _).mono ?_); rintro e2 x2 ⟨rfl, ho⟩; replace HMB := hide (HMB.out.only ho (by simp)); replace HSB := hide (HSB.out.only ho (by simp)); replace HT := hide (HT.out.only ho (by simp)); replace HP := hide (HP.out.trans ho); clear ho)
        | (go_at_call 18; (with_reducible refine (HIS.out _).mono ?_); rintro e2 x5 ⟨rfl, ho⟩; replace HMB := hide (HMB.out.only ho (by simp)); replace HSB := hide (HSB.out.only ho (by simp)); replace HT := hide (HT.out.only ho (by simp)); replace HP := hide (HP.out.trans ho); clear ho))
        go_meet
        exact ⟨rfl, HP⟩
      · cases bp
        · go_wp2_with (first
          | (go_at_call 13; (with_reducible refine (HAS.out _).mono ?_); rintro e2 x1 ⟨rfl, ho⟩; replace HMB := hide (HMB.out.only ho (by simp)); replace HSB := hide (HSB.out.only ho (by simp)); replace HT := hide (HT.out.only ho (by simp)); replace HP := hide (HP.out.trans ho); clear ho)
          | (go_at_call 15; (with_reducible refine (HPU.out _).mono ?_); rintro e2 x2 ⟨rfl, ho⟩; replace HMB := hide (HMB.out.only ho (by simp)); replace HSB := hide (HSB.out.only ho (by simp)); replace HT := hide (HT.out.only ho (by simp)); replace HP := hide (HP.out.trans ho); clear ho)
          | (go_at_call 18; (with_reducible refine (HIS.out _).mono ?_); rintro e2 x5 ⟨rfl, ho⟩; replace HMB := hide (HMB.out.only ho (by simp)); replace HSB := hide (HSB.out.only ho (by simp)); replace HT := hide (HT.out.only ho (by simp)); replace HP := hide (HP.out.trans ho); clear ho))
          go_meet
          exact ⟨rfl, HP⟩
        · cases bc
          · go_wp2_with (first
            | (go_at_call 13; (with_reducible refine (HAS.out _).mono ?_); rintro e2 x1 ⟨rfl, ho⟩; replace HMB := hide (HMB.out.only ho (by simp)); replace HSB := hide (HSB.out.only ho (by simp)); replace HT := hide (HT.out.only ho (by simp)); replace HP := hide (HP.out.trans ho); clear ho)
            | (go_at_call 15; (with_reducible refine (HPU.out _).mono ?_); rintro e2 x2 ⟨rfl, ho⟩; replace HMB := hide (HMB.out.only ho (by simp)); replace HSB := hide (HSB.out.only ho (by simp)); replace HT := hide (HT.out.only ho (by simp)); replace HP := hide (HP.out.trans ho); clear ho)
            | (go_at_call 18; (with_reducible refine (HIS.out _).mono ?_); rintro e2 x5 ⟨rfl, ho⟩; replace HMB := hide (HMB.out.only ho (by simp)); replace HSB := hide (HSB.out.only ho (by simp)); replace HT := hide (HT.out.only ho (by simp)); replace HP := hide (HP.out.trans ho); clear ho))
            go_meet
            exact ⟨rfl, HP⟩
          · exact absurd HOK.out (by decide)
  obtain ⟨rfl, HQ⟩ := hcut
  replace HMB := hide (HMB.out.only HQ.out (by simp)); replace HSB := hide (HSB.out.only HQ.out (by simp)); replace HT := hide (HT.out.only HQ.out (by simp)); replace HO := hide (HO.out.trans HQ.out)
  clear HQ
  rename World => wc
  clear HPU HIS HAS
  (first | (clear m0 m1 m2 m3 m4 m5 m6 m7 m8 m9 m10 m11 m12) | skip)
  obtain ⟨b0, b1, b2, b3, b4, b5, b6, b7, b8, b9, b10, b11, b12⟩ := cells13 HSB.out
  go_wp2_with fail
  go_ret
  exact retb rfl HO.out
set_option maxRecDepth 100000 in
set_option maxHeartbeats 12800000 in
theorem mr_yes (w : World) (m : Mg) (p c2 o : ByteArray) (n : Nat) (hF : m.Fine) (hk0 : -9223372036854775808 ≤ m.k) (hp : p.size ≤ maxLen) (hc : c2.size ≤ maxLen) (_ho3 : o.size ≤ maxLen) (hn : n < 18446744073709551616) (htab : Tab w) (HB : Hid (∀ (w : World) (G : Nat), G = w.heap.size → Calls Tryz.prog 11 #[.agg m.cells, .slice (some ⟨G, 0, none⟩) 3 3] (w.alloc (.cells #[.string p, .string c2, .string o] 9)) (RetB false w))) (hok : okRef m p c2 = true) (hhv : heavyV m 3000 = false) (hp2 : p.size ≤ 200) (hc2 : c2.size ≤ 200) : Calls Tryz.prog 4 #[.agg m.cells, .string p, .string c2, .string o, .int .u64 (n : Nat)] w (RetB true w) := by
  have HAW := hide (fun W ht => awake11 W ht)
  have HA1 := hide (fun W ht => Accept_any W m p o hF hp ht)
  have HB1 := hide (fun W => AcceptR_any W m p o hF hp)
  have HRF := hide (fun W ht => Refuse_any W m p c2 n hF hk0 hp hc hn ht)
  have HAS := hide (fun W => Asks_any W m hF)
  have HPU := hide (fun W => Pub_any W p hp)
  have HIS := hide (fun W => isR_kind W c2 hc)
  unfold RetB at HAW HAS HPU HIS HB
  unfold OpenPost at HA1 HB1
  unfold SignPost at HRF
  obtain ⟨⟨ac, ae⟩, hac⟩ : ∃ q, acceptV m p o = q := ⟨_, rfl⟩
  rw [hac] at HA1 HB1
  simp only at HA1 HB1
  clear hac
  obtain ⟨ha, hp5, hcc⟩ := okref_is hok
  have hsz := not_heavy ha hhv
  have HRR := hide (fun W => RefuseR_any W m p c2 n hF hp hc hn)
  have hfr : (refM m.s (numT n) (sealJ n p c2 m.x11)).Fine := ref_fine hF.s (ms_num_size n hn) (seal_size n hn _ _ _)
  have HA2 := hide (fun W ht => Accept_any W (refM m.s (numT n) (sealJ n p c2 m.x11)) p m.x11 hfr hp ht)
  have HA3 := hide (fun W ht => Accept_any W (refM m.s (numT n) (sealJ n p c2 m.x11)) p o hfr hp ht)
  rw [accept_ref hok hsz hp2 hc2 hn, if_pos rfl] at HA2
  rw [accept_ref hok hsz hp2 hc2 hn] at HA3
  unfold OpenPost at HA2 HA3
  rw [refuse_fine hok hsz hp2 hc2 hn] at HRF
  have HNE := ms_neq (refM m.s (numT n) (sealJ n p c2 m.x11))
  rw [ha] at HAS
  rw [decide_eq_true hp5] at HPU
  rw [decide_eq_true hcc] at HIS
  clear hsz hok hhv hp2 hc2 hfr ha hp5 hcc
  generalize numT n = nb at *
  generalize sealJ n p c2 m.x11 = sx at *
  have HT := hide htab
  obtain ⟨k, s, r, c, x4, x5, x6, x7, x8, x9, x10, x11, x12⟩ := m
  unfold refM noT at HRF HA2 HA3 HRR HNE
  unfold Mg.cells at HA1 HB1 HAS HB HRF HA2 HA3 HRR HNE ⊢
  simp only at HA1 HB1 HAS HB HRF HA2 HA3 HRR HNE ⊢
  have h00 : ((0 : Nat) : Int) = 0 := rfl
  simp only [h00] at HRF HA2 HA3 HRR HNE
  clear h00
  have HMB := hide (Blk.new w 25 #[.int .i64 k, .int .u32 (s : Nat), .int .u32 (r : Nat), .int .u64 (c : Nat), .string x4, .string x5, .string x6, .string x7, .string x8, .string x9, .string x10, .string x11, .string x12])
  have HO := hide ((Only.refl [] w).alloc (.cells #[.int .i64 k, .int .u32 (s : Nat), .int .u32 (r : Nat), .int .u64 (c : Nat), .string x4, .string x5, .string x6, .string x7, .string x8, .string x9, .string x10, .string x11, .string x12] 25))
  replace HT := hide (HT.out.only HO.out (by simp))
  clear htab hF hk0 hp hc _ho3 hn
  go_enter Tryz.func4, Tryz.ntmps4
  go_upto_region 1 with fail
  generalize (w.alloc (.cells #[.int .i64 k, .int .u32 (s : Nat), .int .u32 (r : Nat), .int .u64 (c : Nat), .string x4, .string x5, .string x6, .string x7, .string x8, .string x9, .string x10, .string x11, .string x12] 25)) = v0 at *
  obtain ⟨m0, m1, m2, m3, m4, m5, m6, m7, m8, m9, m10, m11, m12⟩ := cells13 HMB.out
  have qa : (ac.toList == ac.toList) = true := beq_self_eq_true _
  have qb : (ae == ae) = true := beq_self_eq_true _
  have qc : (ae != ae) = false := by rw [bne_eq_false_iff_eq]
  go_upto_region 10 with (first
    | (go_at_call 10; (refine (HAW.out _ HT.out).mono ?_); rintro e2 w1 ⟨rfl, ho⟩; replace HMB := hide (HMB.out.only ho (by simp)); replace HT := hide (HT.out.only ho (by simp)); replace HO := hide (HO.out.trans ho); clear ho; (first | (clear m0 m1 m2 m3 m4 m5 m6 m7 m8 m9 m10 m11 m12) | skip); obtain ⟨m0, m1, m2, m3, m4, m5, m6, m7, m8, m9, m10, m11, m12⟩ := cells13 HMB.out)
    | (go_at_call 11; (refine (HB.out _ _ rfl).mono ?_); rintro e2 w2 ⟨rfl, ho⟩; replace HMB := hide (HMB.out.only ho (by simp)); replace HT := hide (HT.out.only ho (by simp)); replace HO := hide (HO.out.trans ho); clear ho; (first | (clear m0 m1 m2 m3 m4 m5 m6 m7 m8 m9 m10 m11 m12) | skip); obtain ⟨m0, m1, m2, m3, m4, m5, m6, m7, m8, m9, m10, m11, m12⟩ := cells13 HMB.out)
    | (go_at_call 21; (refine (HA1.out _ HT.out).mono ?_); rintro e2 w4 ⟨rfl, ho⟩; replace HMB := hide (HMB.out.only ho (by simp)); replace HT := hide (HT.out.only ho (by simp)); replace HO := hide (HO.out.trans ho); clear ho; (first | (clear m0 m1 m2 m3 m4 m5 m6 m7 m8 m9 m10 m11 m12) | skip); obtain ⟨m0, m1, m2, m3, m4, m5, m6, m7, m8, m9, m10, m11, m12⟩ := cells13 HMB.out)
    | (go_at_call 22; (refine (HB1.out _).mono ?_); rintro e2 w5 ⟨rfl, ho⟩; replace HMB := hide (HMB.out.only ho (by simp)); replace HT := hide (HT.out.only ho (by simp)); replace HO := hide (HO.out.trans ho); clear ho; (first | (clear m0 m1 m2 m3 m4 m5 m6 m7 m8 m9 m10 m11 m12) | skip); obtain ⟨m0, m1, m2, m3, m4, m5, m6, m7, m8, m9, m10, m11, m12⟩ := cells13 HMB.out)
    | (go_at_call 23; refine (HRF.out _ HT.out).mono ?_; rintro e2 w3 ⟨rfl, ho⟩; have HSB := hide (Blk.new w3 25 #[.int .i64 3, .int .u32 0, .int .u32 (s : Nat), .int .u64 0, .string ⟨#[]⟩, .string ⟨#[]⟩, .string ⟨#[]⟩, .string ⟨#[]⟩, .string nb, .string sx, .string ⟨#[]⟩, .string ⟨#[]⟩, .string ⟨#[]⟩]); replace ho := ho.alloc (.cells #[.int .i64 3, .int .u32 0, .int .u32 (s : Nat), .int .u64 0, .string ⟨#[]⟩, .string ⟨#[]⟩, .string ⟨#[]⟩, .string ⟨#[]⟩, .string nb, .string sx, .string ⟨#[]⟩, .string ⟨#[]⟩, .string ⟨#[]⟩] 25); replace HMB := hide (HMB.out.only ho (by simp)); replace HT := hide (HT.out.only ho (by simp)); replace HO := hide (HO.out.trans ho); clear ho))
  generalize (w3.alloc (.cells #[.int .i64 3, .int .u32 0, .int .u32 (s : Nat), .int .u64 0, .string ⟨#[]⟩, .string ⟨#[]⟩, .string ⟨#[]⟩, .string ⟨#[]⟩, .string nb, .string sx, .string ⟨#[]⟩, .string ⟨#[]⟩, .string ⟨#[]⟩] 25)) = v5 at *
  clear m0 m1 m2 m3 m4 m5 m6 m7 m8 m9 m10 m11 m12
  obtain ⟨m0, m1, m2, m3, m4, m5, m6, m7, m8, m9, m10, m11, m12⟩ := cells13 HMB.out
  clear HAW HRF HB HA1 HB1
  go_cut [71] (fun cv w' => cv = .bool false ∧ Hid (Only [] v5 w'))
  case first =>
    as_aux_lemma =>
      have HP := hide (Only.refl [] v5)
      go_wp2_with (first
        | (go_at_call 13; (with_reducible refine (HAS.out _).mono ?_); rintro e2 x1 ⟨rfl, ho⟩; replace HMB := hide (HMB.out.only ho (by simp)); replace HSB := hide (HSB.out.only ho (by simp)); replace HT := hide (HT.out.only ho (by simp)); replace HP := hide (HP.out.trans ho); clear ho)
        | (go_at_call 15; (with_reducible refine (HPU.out _).mono ?_); rintro e2 x2 ⟨rfl, ho⟩; replace HMB := hide (HMB.out.only ho (by simp)); replace HSB := hide (HSB.out.only ho (by simp)); replace HT := hide (HT.out.only ho (by simp)); replace HP := hide (HP.out.trans ho); clear ho)
        | (go_at_call 18; (with_reducible refine (HIS.out _).mono ?_); rintro e2 x5 ⟨rfl, ho⟩; replace HMB := hide (HMB.out.only ho (by simp)); replace HSB := hide (HSB.out.only ho (by simp)); replace HT := hide (HT.out.only ho (by simp)); replace HP := hide (HP.out.trans ho); clear ho))
      go_meet
      exact ⟨rfl, HP⟩
  obtain ⟨rfl, HQ⟩ := hcut
  replace HMB := hide (HMB.out.only HQ.out (by simp)); replace HSB := hide (HSB.out.only HQ.out (by simp)); replace HT := hide (HT.out.only HQ.out (by simp)); replace HO := hide (HO.out.trans HQ.out)
  clear HQ
  rename World => wc
  clear HPU HIS HAS
  (first | (clear m0 m1 m2 m3 m4 m5 m6 m7 m8 m9 m10 m11 m12) | skip)
  go_upto_region 12 with fail
  go_cut [89] (fun cv w' => cv = .bool false ∧ Hid (Only [] wc w'))
  case first =>
    as_aux_lemma =>
      rename_i JJ KK hJJ hKK
      refine wp_region_held_drew (S := fun W => Only [] wc W) (by kernel_rfl) (by exact (Only.refl [] wc).drew) (fun hHeld => ?_); generalize wc.drew = wd12 at *
      refine tk 0 ?_; refine tk 1 ?_; refine tk 2 ?_
      refine tk 3 ?_ (hy := by (intro w hSw; (try dsimp only at hSw); have HSw := HSB.out.only hSw (by simp); obtain ⟨b0, b1, b2, b3, b4, b5, b6, b7, b8, b9, b10, b11, b12⟩ := cells13 HSw; clear HSw; go_simp; try with_reducible rfl))
      refine tk 4 ?_ (hy := by (intro w hSw; (try dsimp only at hSw); have HMw := HMB.out.only hSw (by simp); obtain ⟨m0, m1, m2, m3, m4, m5, m6, m7, m8, m9, m10, m11, m12⟩ := cells13 HMw; clear HMw; go_simp; try with_reducible rfl))
      refine tk 5 ?_; refine tk 6 ?_; refine tk 7 ?_; refine wpAnyH_ready (rs := [8]) (by kernel_rfl) (by simp) ?_; refine (AllReadyH.cons rfl (fun K hK => ?_) AllReadyH.nil); go_simp
      (go_at_call 24; (with_reducible refine (HRR.out _).mono ?_); rintro e2 w8 ⟨rfl, ho⟩); refine hK.out _ _ (by first | exact hHeld.trans ho | exact hHeld.trans (ho.mono (by simp))) (fun hN => ?_)
      clear hK K ho hHeld; have hHeld := hN; clear hN; (try simp only [zsa, zsb, zsc, Act.put, zsd, zse, zsf])
      refine tk 9 ?_; refine tk 10 ?_; refine wpAnyH_done (by kernel_rfl) ?_ _; dsimp only [Exit.then]; refine hKK _ _ ?_; go_meet; exact ⟨rfl, hide hHeld⟩
  obtain ⟨rfl, HQ⟩ := hcut
  replace HMB := hide (HMB.out.only HQ.out (by simp)); replace HSB := hide (HSB.out.only HQ.out (by simp)); replace HT := hide (HT.out.only HQ.out (by simp)); replace HO := hide (HO.out.trans HQ.out)
  clear HQ
  rename World => wc
  clear HRR HNE
  obtain ⟨m0, m1, m2, m3, m4, m5, m6, m7, m8, m9, m10, m11, m12⟩ := cells13 HMB.out
  obtain ⟨b0, b1, b2, b3, b4, b5, b6, b7, b8, b9, b10, b11, b12⟩ := cells13 HSB.out
  rcases Decidable.em (x11 = o) with he | he
  · have e0 := he
    subst e0
    rw [if_pos rfl] at HA3
    have hq := beq_self_eq_true x11.toList
    have hc9 := beq_self_eq_true c2.toList
    go_wp2_with (first
      | (go_at_call 21; (with_reducible refine (HA2.out _ HT.out).mono ?_); rintro e2 x2 ⟨rfl, ho⟩; replace HMB := hide (HMB.out.only ho (by simp)); replace HSB := hide (HSB.out.only ho (by simp)); replace HT := hide (HT.out.only ho (by simp)); replace HO := hide (HO.out.trans ho); clear ho; (first | (clear m0 m1 m2 m3 m4 m5 m6 m7 m8 m9 m10 m11 m12) | skip); obtain ⟨m0, m1, m2, m3, m4, m5, m6, m7, m8, m9, m10, m11, m12⟩ := cells13 HMB.out; (first | (clear b0 b1 b2 b3 b4 b5 b6 b7 b8 b9 b10 b11 b12) | skip); obtain ⟨b0, b1, b2, b3, b4, b5, b6, b7, b8, b9, b10, b11, b12⟩ := cells13 HSB.out))
    go_ret
    exact retb rfl HO.out
  · rw [if_neg he] at HA3
    have hq : (o.toList == x11.toList) = false := by rw [beq_eq_false_iff_ne]; exact fun h => he (toList_inj h).symm
    have hc9 := beq_self_eq_true c2.toList
    clear he
    go_wp2_with (first
      | (go_at_call 21; (with_reducible refine (HA2.out _ HT.out).mono ?_); rintro e2 x2 ⟨rfl, ho⟩; replace HMB := hide (HMB.out.only ho (by simp)); replace HSB := hide (HSB.out.only ho (by simp)); replace HT := hide (HT.out.only ho (by simp)); replace HO := hide (HO.out.trans ho); clear ho; (first | (clear m0 m1 m2 m3 m4 m5 m6 m7 m8 m9 m10 m11 m12) | skip); obtain ⟨m0, m1, m2, m3, m4, m5, m6, m7, m8, m9, m10, m11, m12⟩ := cells13 HMB.out; (first | (clear b0 b1 b2 b3 b4 b5 b6 b7 b8 b9 b10 b11 b12) | skip); obtain ⟨b0, b1, b2, b3, b4, b5, b6, b7, b8, b9, b10, b11, b12⟩ := cells13 HSB.out)
      | (go_at_call 21; (with_reducible refine (HA3.out _ HT.out).mono ?_); rintro e2 x3 ⟨rfl, ho⟩; replace HMB := hide (HMB.out.only ho (by simp)); replace HSB := hide (HSB.out.only ho (by simp)); replace HT := hide (HT.out.only ho (by simp)); replace HO := hide (HO.out.trans ho); clear ho; (first | (clear m0 m1 m2 m3 m4 m5 m6 m7 m8 m9 m10 m11 m12) | skip); obtain ⟨m0, m1, m2, m3, m4, m5, m6, m7, m8, m9, m10, m11, m12⟩ := cells13 HMB.out; (first | (clear b0 b1 b2 b3 b4 b5 b6 b7 b8 b9 b10 b11 b12) | skip); obtain ⟨b0, b1, b2, b3, b4, b5, b6, b7, b8, b9, b10, b11, b12⟩ := cells13 HSB.out))
    go_ret
    exact retb rfl HO.out
end
end Go.Proofs.YtfipdjlalfpbnaaGreatDoor

/-
  The reference's Read of any bytes: by walking. Condition: at most 2^40 bytes.
  Layer 6 awake; any bytes read twice, and printed: by walking. No condition.
-/
import Derived.Test.YtfmfnfmhknlpbaaWiQ
import Derived.Test.YtfmfnfmhknlpbaaZH
namespace Go.Proofs.Ytfmfnfmhknlpbaa
open Go.RowKit Go.Deep

set_option maxRecDepth 100000 in
set_option maxHeartbeats 6400000 in
theorem ReadR_bad (w : World) (bv : Value) (l : List UInt8) (hl : l.length ≤ 1099511627776) (c : UInt8) (hcc : ¬ (c = 1 ∨ c = 2 ∨ c = 3 ∨ c = 4)) (r : List UInt8) (hlr : l = c :: r) (hb : Rd w [] bv (ints .u8 (byts l))) :
    Calls Try.prog 8 #[bv] w (ReadPostW (readV l) w) := by
  obtain ⟨A, cap, rfl, hc1, hc2⟩ := hb.formb
  obtain ⟨G, O, rfl, hG, h0⟩ : ∃ G O, A = some ⟨G, O, none⟩ ∧ G < w.heap.size ∧ w.cell? ⟨G, O, none⟩ = some (.int .u8 (c.toNat : Nat)) := by
    subst hlr
    obtain ⟨g, o, h, _, h2, h3⟩ := hb.at_.2.2.2 0 (.int .u8 c.toNat) rfl
    exact ⟨g, o, h, h2, h3⟩
  have HRB := hide ((Blk.new w 27 msg0).alloc (.cells msg0 27))
  have HO := hide (((Only.refl [] w).alloc (.cells msg0 27)).alloc (.cells msg0 27))
  have HZB := hide (Blk.new (w.alloc (.cells msg0 27)) 27 msg0)
  rw [World.size_alloc] at HZB
  have HV2 := hide (show readV l = (3, zeroM 0) by
    have e : headV l = (3, 0, []) := by rw [hlr]; exact if_neg hcc
    rw [read_head (by rw [e]; decide), e])
  have d0 := (cell_only HO.out hG (by simp)).trans h0
  obtain ⟨n, hn⟩ : ∃ n, n = l.length := ⟨_, rfl⟩
  have hpos : (0 : Int) < n := by rw [hn, hlr]; simp only [List.length_cons]; omega
  have hposN : 0 < n := by omega
  have hzz : ((n : Int) == 0) = false := by rw [beq_eq_false_iff_ne]; omega
  have hk : (c.toNat : Int) < 1 ∨ ¬ (c.toNat : Int) < 1 ∧ (4 : Int) < c.toNat := by
    have h1 : ¬ c.toNat = 1 := fun h => hcc (.inl (UInt8.toNat_inj.1 h))
    have h2 : ¬ c.toNat = 2 := fun h => hcc (.inr (.inl (UInt8.toNat_inj.1 h)))
    have h3 : ¬ c.toNat = 3 := fun h => hcc (.inr (.inr (.inl (UInt8.toNat_inj.1 h))))
    have h4 : ¬ c.toNat = 4 := fun h => hcc (.inr (.inr (.inr (UInt8.toNat_inj.1 h))))
    omega
  have hcw : IntKind.i64.wrap (c.toNat : Int) = c.toNat := by have := c.toNat_lt; rw [IntKind.wrap_i64]; omega
  rw [← hn] at hc1 ⊢
  generalize c.toNat = k at *
  clear hb hl hlr hn hcc h0
  unfold maxLen at hc2
  rcases hk with hk | ⟨hk, hk2⟩
  all_goals
    go_enter Try.func8, Try.ntmps8
    go_upto_region 5 with fail
    generalize ((w.alloc (.cells msg0 27)).alloc (.cells msg0 27)) = W at *
    have r0 := HRB.out.cell 0; have r1 := HRB.out.cell 1; have r2 := HRB.out.cell 2; have r3 := HRB.out.cell 3; have r4 := HRB.out.cell 4; have r5 := HRB.out.cell 5; have r6 := HRB.out.cell 6; have r7 := HRB.out.cell 7; have r8 := HRB.out.cell 8; have r9 := HRB.out.cell 9; have r10 := HRB.out.cell 10; have r11 := HRB.out.cell 11; have r12 := HRB.out.cell 12; simp at r0 r1 r2 r3 r4 r5 r6 r7 r8 r9 r10 r11 r12; have rf := HRB.out.frozen
    have z0 := HZB.out.cell 0; have z1 := HZB.out.cell 1; have z2 := HZB.out.cell 2; have z3 := HZB.out.cell 3; have z4 := HZB.out.cell 4; have z5 := HZB.out.cell 5; have z6 := HZB.out.cell 6; have z7 := HZB.out.cell 7; have z8 := HZB.out.cell 8; have z9 := HZB.out.cell 9; have z10 := HZB.out.cell 10; have z11 := HZB.out.cell 11; have z12 := HZB.out.cell 12; simp at z0 z1 z2 z3 z4 z5 z6 z7 z8 z9 z10 z11 z12
    go_wp2_with fail
    refine bodyPost_ret (results_cell_two rfl _ _ w.heap.size 27 _ (0, 0) _ rfl (set13 HRB.out (.int .i64 0) (.int .u32 0) (.int .u32 0) (.int .u64 0) (.string ⟨#[]⟩) (.string ⟨#[]⟩) (.string ⟨#[]⟩) (.string ⟨#[]⟩) (.string ⟨#[]⟩) (.string ⟨#[]⟩) (.string ⟨#[]⟩) (.string ⟨#[]⟩) (.string ⟨#[]⟩)) Try.underlying27 rfl (by kernel_rfl)) rfl ?_
    exact readw HV2.out (only13 HO.out (.inr (Nat.le_refl _)) (.int .i64 0) (.int .u32 0) (.int .u32 0) (.int .u64 0) (.string ⟨#[]⟩) (.string ⟨#[]⟩) (.string ⟨#[]⟩) (.string ⟨#[]⟩) (.string ⟨#[]⟩) (.string ⟨#[]⟩) (.string ⟨#[]⟩) (.string ⟨#[]⟩) (.string ⟨#[]⟩))
theorem ReadR_any (w : World) (bv : Value) (l : List UInt8) (hl : l.length ≤ 1099511627776) (hb : Rd w [] bv (ints .u8 (byts l))) :
    Calls Try.prog 8 #[bv] w (ReadPostW (readV l) w) := by
  cases l with
  | nil =>
    obtain ⟨A, cap, rfl, _⟩ := hb.formb
    exact ReadR_nil w A cap
  | cons c r =>
    by_cases hcc : c = 1 ∨ c = 2 ∨ c = 3 ∨ c = 4
    · have h14 : 1 ≤ c.toNat ∧ c.toNat ≤ 4 := by rcases hcc with rfl | rfl | rfl | rfl <;> decide
      exact ReadR_k w bv _ hl c hcc c.toNat rfl h14.1 h14.2 r rfl hb
    · exact ReadR_bad w bv _ hl c hcc r rfl hb
end Go.Proofs.Ytfmfnfmhknlpbaa

namespace Go.Proofs.Ytfmfnfmhknlpbaa
open Go.RowKit Go.Deep

set_option maxRecDepth 100000 in
set_option maxHeartbeats 12800000 in
theorem awake06 (w : World) : Calls Try.prog 6 #[] w fun e w' => e = .returned (.bool true) ∧ Only [] w w' := by
  have HP := hide (fun W => Print_4 W 0 7 1 noT noT noT noT noT noT ⟨#[48]⟩ noT noT (fine_of (by simp) (by simp) (by simp) (by rw [noT_size]; omega) (by rw [noT_size]; omega) (by rw [noT_size]; omega) (by rw [noT_size]; omega) (by rw [noT_size]; omega) (by rw [noT_size]; omega) (by show 1 ≤ 65535; omega) (by rw [noT_size]; omega) (by rw [noT_size]; omega)))
  unfold PrintPost at HP
  have hr : rightM ⟨4, 0, 7, 1, noT, noT, noT, noT, noT, noT, ⟨#[48]⟩, noT, noT⟩ = true := by kernel_rfl
  have hp : printM ⟨4, 0, 7, 1, noT, noT, noT, noT, noT, noT, ⟨#[48]⟩, noT, noT⟩ = [4, 0, 0, 0, 7, 0, 0, 0, 1, 0, 0, 0, 0, 0, 0, 0, 1, 0, 48] := by kernel_rfl
  simp only [hr, hp, if_true] at HP
  unfold noT at HP
  clear hr hp
  go_enter Try.func6, Try.ntmps6
  go_wp2_with (go_at_call 9; refine (HP.out _).mono ?_; rintro e w1 ⟨ho, v, rfl, hr⟩; obtain ⟨A, cap, rfl, _, _⟩ := hr.formb; have hcv : (convert 22 9 (.slice A 19 cap)).run Try.prog w1 = .ok (.string ⟨#[4, 0, 0, 0, 7, 0, 0, 0, 1, 0, 0, 0, 0, 0, 0, 0, 1, 0, 48]⟩) w1 := rd_string (P := Try.prog) hr 22 9 5 Try.underlying22 Try.underlying5 Try.underlying9; have HO := hide ho; clear ho hr)
  go_ret
  exact ⟨rfl, HO.out⟩

set_option maxRecDepth 100000 in
set_option maxHeartbeats 12800000 in
theorem wr_long (w : World) (bv : Value) (l : List UInt8) (hb : Rd w [] bv (ints .u8 (byts l))) (hl : 3000 < l.length) : Calls Try.prog 3 #[bv] w fun e w' => e = .returned (.bool true) ∧ Only [] w w' := by
  obtain ⟨A, cap, rfl, _, _⟩ := hb.formb
  have hlI : (3000 : Int) < l.length := by omega
  have HA := hide (awake06 w)
  clear hb hl
  go_enter Try.func3, Try.ntmps3
  go_wp2_with (go_at_call 6; refine HA.out.mono ?_; rintro e w1 ⟨rfl, ho⟩; have HO := hide ho; clear ho)
  go_ret
  exact ⟨rfl, HO.out⟩

set_option maxRecDepth 100000 in
set_option maxHeartbeats 12800000 in
theorem wr_walk (w : World) (bv : Value) (l : List UInt8) (hb : Rd w [] bv (ints .u8 (byts l))) (hl : l.length ≤ 3000) : Calls Try.prog 3 #[bv] w fun e w' => e = .returned (.bool true) ∧ Only [] w w' := by
  obtain ⟨A, cap, rfl, _, _⟩ := hb.formb
  have hlI : ¬ (3000 : Int) < l.length := by omega
  have HA := hide (awake06 w)
  have HB := hide hb
  have HR1 := hide (fun W h => Read_any W (.slice A l.length cap) l (by omega) h)
  have HR2 := hide (fun W h => ReadR_any W (.slice A l.length cap) l (by omega) h)
  have HPW := hide (fun W m h => Print_any W m h)
  have HRD := hide (fun cs (h : readV l = (0, cs)) => read_right h)
  obtain ⟨m, hm, hmf⟩ := read_cells l
  unfold ReadPostW at HR1 HR2
  rw [hm] at HR1 HR2
  obtain ⟨cd, hcd⟩ : ∃ cd, cd = (readV l).1 := ⟨_, rfl⟩
  rw [← hcd] at HR1 HR2
  have HPM := hide (fun (h : cd = 0) => show rightM m = true ∧ printM m = l by
    obtain ⟨m', h1, _, h2, h3⟩ := HRD.out m.cells (by rw [← hm, ← h, hcd])
    have e : m' = m := cells_inj h1.symm
    rw [← e]
    exact ⟨h2, h3⟩)
  replace HPW := hide (fun W => HPW.out W m hmf)
  have hne : ∀ W : World, (binOp .neq 27 (.agg m.cells) (.agg m.cells)).run Try.prog W = .ok (.bool false) W := fun W => by
    have h := msg_neq m m W
    rw [(eqM_iff m m).2 rfl] at h
    exact h
  clear hb hl hcd hm hmf HRD
  obtain ⟨k, s, r, c, x4, x5, x6, x7, x8, x9, x10, x11, x12⟩ := m
  unfold Mg.cells at HR1 HR2 HPW hne
  simp only at HR1 HR2 HPW hne
  by_cases h0 : cd = 0
  · subst h0
    obtain ⟨hr, hp⟩ := HPM.out rfl
    unfold PrintPost at HPW
    simp only [hr, hp, if_true] at HPW
    clear hr hp HPM
    go_enter Try.func3, Try.ntmps3
    go_upto_region 7 with (first
      | (go_at_call 6; refine HA.out.mono ?_; rintro e w1 ⟨rfl, ho⟩; have HO := hide ho; replace HB := hide (HB.out.only ho (by simp)); clear ho)
      | (go_at_call 7; refine (HR1.out _ HB.out).mono ?_; rintro e w2 ⟨rfl, ho⟩; replace HO := hide (HO.out.trans ho |>.alloc (.cells #[.int .i64 k, .int .u32 (s : Nat), .int .u32 (r : Nat), .int .u64 (c : Nat), .string x4, .string x5, .string x6, .string x7, .string x8, .string x9, .string x10, .string x11, .string x12] 27)); have HM := hide (Blk.new w2 27 #[.int .i64 k, .int .u32 (s : Nat), .int .u32 (r : Nat), .int .u64 (c : Nat), .string x4, .string x5, .string x6, .string x7, .string x8, .string x9, .string x10, .string x11, .string x12]); replace HB := hide ((HB.out.only ho (by simp)).only ((Only.refl [] w2).alloc (.cells #[.int .i64 k, .int .u32 (s : Nat), .int .u32 (r : Nat), .int .u64 (c : Nat), .string x4, .string x5, .string x6, .string x7, .string x8, .string x9, .string x10, .string x11, .string x12] 27)) (by simp)); clear ho)
      | (go_at_call 8; refine (HR2.out _ HB.out).mono ?_; rintro e w3 ⟨rfl, ho⟩; have HN := hide (Blk.new w3 27 #[.int .i64 k, .int .u32 (s : Nat), .int .u32 (r : Nat), .int .u64 (c : Nat), .string x4, .string x5, .string x6, .string x7, .string x8, .string x9, .string x10, .string x11, .string x12]); replace HM := hide ((HM.out.only ho (by simp)).alloc (.cells #[.int .i64 k, .int .u32 (s : Nat), .int .u32 (r : Nat), .int .u64 (c : Nat), .string x4, .string x5, .string x6, .string x7, .string x8, .string x9, .string x10, .string x11, .string x12] 27)); replace HO := hide (HO.out.trans ho |>.alloc (.cells #[.int .i64 k, .int .u32 (s : Nat), .int .u32 (r : Nat), .int .u64 (c : Nat), .string x4, .string x5, .string x6, .string x7, .string x8, .string x9, .string x10, .string x11, .string x12] 27)); replace HB := hide ((HB.out.only ho (by simp)).only ((Only.refl [] w3).alloc (.cells #[.int .i64 k, .int .u32 (s : Nat), .int .u32 (r : Nat), .int .u64 (c : Nat), .string x4, .string x5, .string x6, .string x7, .string x8, .string x9, .string x10, .string x11, .string x12] 27)) (by simp)); clear ho))
    generalize (w3.alloc (.cells #[.int .i64 k, .int .u32 (s : Nat), .int .u32 (r : Nat), .int .u64 (c : Nat), .string x4, .string x5, .string x6, .string x7, .string x8, .string x9, .string x10, .string x11, .string x12] 27)) = w4 at *
    have m0 := HM.out.cell 0; have m1 := HM.out.cell 1; have m2 := HM.out.cell 2; have m3 := HM.out.cell 3; have m4 := HM.out.cell 4; have m5 := HM.out.cell 5; have m6 := HM.out.cell 6; have m7 := HM.out.cell 7; have m8 := HM.out.cell 8; have m9 := HM.out.cell 9; have m10 := HM.out.cell 10; have m11 := HM.out.cell 11; have m12 := HM.out.cell 12; simp at m0 m1 m2 m3 m4 m5 m6 m7 m8 m9 m10 m11 m12
    have n0 := HN.out.cell 0; have n1 := HN.out.cell 1; have n2 := HN.out.cell 2; have n3 := HN.out.cell 3; have n4 := HN.out.cell 4; have n5 := HN.out.cell 5; have n6 := HN.out.cell 6; have n7 := HN.out.cell 7; have n8 := HN.out.cell 8; have n9 := HN.out.cell 9; have n10 := HN.out.cell 10; have n11 := HN.out.cell 11; have n12 := HN.out.cell 12; simp at n0 n1 n2 n3 n4 n5 n6 n7 n8 n9 n10 n11 n12
    have hcb := rd_string (P := Try.prog) HB.out 22 9 5 Try.underlying22 Try.underlying5 Try.underlying9
    go_wp2_with (go_at_call 9; refine (HPW.out _).mono ?_; rintro e w5 ⟨ho, v, rfl, hrd⟩; obtain ⟨Ap, cp, rfl, _, _⟩ := hrd.formb; have hcp := rd_string (P := Try.prog) hrd 22 9 5 Try.underlying22 Try.underlying5 Try.underlying9; have hcb := rd_string (P := Try.prog) (HB.out.only ho (by simp)) 22 9 5 Try.underlying22 Try.underlying5 Try.underlying9; replace HO := hide (HO.out.trans ho); clear ho hrd)
    go_ret
    exact ⟨rfl, HO.out⟩
  · have hcb : (cd != 0) = true := bne_iff_ne.2 h0
    clear h0 HPM HPW
    go_enter Try.func3, Try.ntmps3
    go_upto_region 7 with (first
      | (go_at_call 6; refine HA.out.mono ?_; rintro e w1 ⟨rfl, ho⟩; have HO := hide ho; replace HB := hide (HB.out.only ho (by simp)); clear ho)
      | (go_at_call 7; refine (HR1.out _ HB.out).mono ?_; rintro e w2 ⟨rfl, ho⟩; replace HO := hide (HO.out.trans ho |>.alloc (.cells #[.int .i64 k, .int .u32 (s : Nat), .int .u32 (r : Nat), .int .u64 (c : Nat), .string x4, .string x5, .string x6, .string x7, .string x8, .string x9, .string x10, .string x11, .string x12] 27)); have HM := hide (Blk.new w2 27 #[.int .i64 k, .int .u32 (s : Nat), .int .u32 (r : Nat), .int .u64 (c : Nat), .string x4, .string x5, .string x6, .string x7, .string x8, .string x9, .string x10, .string x11, .string x12]); replace HB := hide ((HB.out.only ho (by simp)).only ((Only.refl [] w2).alloc (.cells #[.int .i64 k, .int .u32 (s : Nat), .int .u32 (r : Nat), .int .u64 (c : Nat), .string x4, .string x5, .string x6, .string x7, .string x8, .string x9, .string x10, .string x11, .string x12] 27)) (by simp)); clear ho)
      | (go_at_call 8; refine (HR2.out _ HB.out).mono ?_; rintro e w3 ⟨rfl, ho⟩; have HN := hide (Blk.new w3 27 #[.int .i64 k, .int .u32 (s : Nat), .int .u32 (r : Nat), .int .u64 (c : Nat), .string x4, .string x5, .string x6, .string x7, .string x8, .string x9, .string x10, .string x11, .string x12]); replace HM := hide ((HM.out.only ho (by simp)).alloc (.cells #[.int .i64 k, .int .u32 (s : Nat), .int .u32 (r : Nat), .int .u64 (c : Nat), .string x4, .string x5, .string x6, .string x7, .string x8, .string x9, .string x10, .string x11, .string x12] 27)); replace HO := hide (HO.out.trans ho |>.alloc (.cells #[.int .i64 k, .int .u32 (s : Nat), .int .u32 (r : Nat), .int .u64 (c : Nat), .string x4, .string x5, .string x6, .string x7, .string x8, .string x9, .string x10, .string x11, .string x12] 27)); clear ho))
    generalize (w3.alloc (.cells #[.int .i64 k, .int .u32 (s : Nat), .int .u32 (r : Nat), .int .u64 (c : Nat), .string x4, .string x5, .string x6, .string x7, .string x8, .string x9, .string x10, .string x11, .string x12] 27)) = w4 at *
    have m0 := HM.out.cell 0; have m1 := HM.out.cell 1; have m2 := HM.out.cell 2; have m3 := HM.out.cell 3; have m4 := HM.out.cell 4; have m5 := HM.out.cell 5; have m6 := HM.out.cell 6; have m7 := HM.out.cell 7; have m8 := HM.out.cell 8; have m9 := HM.out.cell 9; have m10 := HM.out.cell 10; have m11 := HM.out.cell 11; have m12 := HM.out.cell 12; simp at m0 m1 m2 m3 m4 m5 m6 m7 m8 m9 m10 m11 m12
    have n0 := HN.out.cell 0; have n1 := HN.out.cell 1; have n2 := HN.out.cell 2; have n3 := HN.out.cell 3; have n4 := HN.out.cell 4; have n5 := HN.out.cell 5; have n6 := HN.out.cell 6; have n7 := HN.out.cell 7; have n8 := HN.out.cell 8; have n9 := HN.out.cell 9; have n10 := HN.out.cell 10; have n11 := HN.out.cell 11; have n12 := HN.out.cell 12; simp at n0 n1 n2 n3 n4 n5 n6 n7 n8 n9 n10 n11 n12
    go_wp2_with fail
    go_ret
    exact ⟨rfl, HO.out⟩
end Go.Proofs.Ytfmfnfmhknlpbaa

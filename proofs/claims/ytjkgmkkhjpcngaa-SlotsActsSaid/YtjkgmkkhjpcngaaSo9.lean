/-
  The law SlotsActs, by walking. No condition.
-/
import Derived.Test.YtjkgmkkhjpcngaaSo8
namespace Go.Proofs.Ytjkgmkkhjpcngaa
open Go.RowKit Go.Deep

theorem ac_get {l : List Ac} {i : Nat} (hi : i < l.length) : l[i]? = some (l.getD i (0, 0, 0, 0)) := by
  rw [List.getD, List.getElem?_eq_getElem hi]; rfl
theorem ac_cell {w : World} {N : List Nat} {g o n cap : Nat} {l : List Ac} (h : RdS 4 acC w N (.slice (some ⟨g, o, none⟩) n cap) l) {i : Nat} (hi : i < l.length) :
    w.cell? ⟨g, o + i * 4, none⟩ = some (.int .u8 (l.getD i (0, 0, 0, 0)).1) ∧ w.cell? ⟨g, o + i * 4 + 1, none⟩ = some (.int .u32 (l.getD i (0, 0, 0, 0)).2.1) ∧ w.cell? ⟨g, o + i * 4 + 2, none⟩ = some (.int .i64 (l.getD i (0, 0, 0, 0)).2.2.1) ∧ w.cell? ⟨g, o + i * 4 + 3, none⟩ = some (.int .u16 (l.getD i (0, 0, 0, 0)).2.2.2) := by
  have h1 := h.cell (ac_get hi) (j := 0) (u := .int .u8 (l.getD i (0, 0, 0, 0)).1) rfl
  have h2 := h.cell (ac_get hi) (j := 1) (u := .int .u32 (l.getD i (0, 0, 0, 0)).2.1) rfl
  have h3 := h.cell (ac_get hi) (j := 2) (u := .int .i64 (l.getD i (0, 0, 0, 0)).2.2.1) rfl
  have h4 := h.cell (ac_get hi) (j := 3) (u := .int .u16 (l.getD i (0, 0, 0, 0)).2.2.2) rfl
  refine ⟨h1, ?_, ?_, ?_⟩
  · rw [Nat.add_assoc]; exact h2
  · rw [Nat.add_assoc]; exact h3
  · rw [Nat.add_assoc]; exact h4

theorem at_blk (gs : List PK) (mp mc mn : Option Nat) (k : Int) : atO (blkO (getO gs mp)) (blkO (getO gs mc)) (blkO (getO gs mn)) k = blkO (getO gs (atI mp mc mn k)) := by
  unfold atO atI
  split
  · rfl
  · split
    · rfl
    · split <;> rfl

set_option maxRecDepth 100000 in
set_option maxHeartbeats 12800000 in
theorem slotsActs_walk (v : Value) (l : List Ac) (lo now : Int) (w : World) (hv : RdS 4 acC w [] v l) (hb : ∀ x ∈ l, 0 ≤ x.2.2.2 ∧ x.2.2.2 ≤ 65535) :
    Calls Try.prog 5 #[v, .int .u32 lo, .int .i64 now] w fun e w' => e = .returned (.bool true) ∧ Only [] w w' := by
  obtain ⟨A, cap, rfl, hcap, hmx⟩ := hv.form
  have HV := hide hv
  have HBD := hide hb
  obtain ⟨n, hn⟩ : ∃ n, n = l.length := ⟨_, rfl⟩
  have HN := hide hn
  rw [← hn] at hcap HV ⊢
  clear hv hn hb
  by_cases hlen : 60 < n
  · have hl1 : (60 : Int) < n := by omega
    clear hlen
    go_enter Try.func5, Try.ntmps5
    go_wp2_with (go_at_call 22; refine (awake13 _).mono ?_; rintro e w1 ⟨rfl, ho⟩; have HC := hide ho; clear ho)
    go_ret
    exact ⟨rfl, HC.out⟩
  have hl1 : ¬ (60 : Int) < n := by omega
  go_enter Try.func5, Try.ntmps5
  go_wp2_with (first
    | (go_at_call 22; refine (awake13 _).mono ?_; rintro e w1 ⟨rfl, ho⟩; have HC := hide ho; have HW1 := hide ho.size; clear ho)
    | (go_at_call 23; refine (slots_new _).mono ?_; rintro e w2 ⟨S, rfl, hS, hs, ho⟩; have HS := hide hs; have HSZ := hide hS; have HC := hide (HC.out.trans ho); clear hs ho hS))
  have HS := hide ((Blk.only HS.out ((Only.refl [] w2).alloc (.cells #[.int .i64 (-1), .int .i64 (-1), .int .i64 (-1)] 56)) (by simp)).alloc (.cells #[] 61))
  have HM := hide ((Blk.new w2 56 #[.int .i64 (-1), .int .i64 (-1), .int .i64 (-1)]).alloc (.cells #[] 61))
  have HOW := hide (own_empty (w2.alloc (.cells #[.int .i64 (-1), .int .i64 (-1), .int .i64 (-1)] 56)) 61 (w2.heap.size + 1) (by simp))
  rw [World.size_alloc] at HOW
  have HC0 := hide ((HC.out.alloc (.cells #[.int .i64 (-1), .int .i64 (-1), .int .i64 (-1)] 56)).alloc (.cells #[] 61))
  have hST : ActSt ((w2.alloc (.cells #[.int .i64 (-1), .int .i64 (-1), .int .i64 (-1)] 56)).alloc (.cells #[] 61)) (w2.heap.size + 1) S w2.heap.size (.slice (some ⟨w2.heap.size + 1, 0, none⟩) 0 0) [] none none none :=
    ⟨HS.out, HM.out, HOW.out, fun x hx => by simp at hx, by simp, fun i e => by simp at e, fun i e => by simp at e, fun i e => by simp at e, fun h => h⟩
  have hSw : w.heap.size ≤ S := Nat.le_trans HW1.out HSZ.out
  have hMw : w.heap.size ≤ w2.heap.size := HC.out.size
  have HST := hide hST
  have HC := HC0
  clear hST HS HM HOW HSZ HW1
  generalize (w2.alloc (.cells #[.int .i64 (-1), .int .i64 (-1), .int .i64 (-1)] 56)).alloc (.cells #[] 61) = w0 at *
  generalize w2.heap.size = M at *
  obtain ⟨B, hB⟩ : ∃ B, B = M + 1 := ⟨_, rfl⟩
  rw [← hB] at HST
  have HSW := hide hSw
  have HMW := hide hMw
  have HBW := hide (show w.heap.size ≤ B by omega)
  have HSM := hide HST.out.sm
  clear hSw hMw HC0
  obtain ⟨i0, hi, hz0, hz1, hz2⟩ := info_parts (show (Try.prog.info? 61).map (fun i => (i.zero, i.size, i.bytes)) = some (some (.pointer none), 1, 8) by kernel_rfl)
  go_loopw [9, 10] (fun av iv wr => ∃ (k : Nat) (gs : List PK) (mp mc mn : Option Nat), k ≤ n ∧ iv = .int .i64 k ∧ gs.length ≤ k ∧ Hid (ActSt wr B S M av gs mp mc mn) ∧ Hid (Only [] w wr)) (fun _ iv _ => n - (intOf iv).toNat)
  case atStart => exact ⟨0, [], none, none, none, Nat.zero_le _, rfl, Nat.le_refl _, (by have h := HST.out; rw [hB] at h ⊢; exact hide h), HC⟩
  case round =>
    clear HST HC
    obtain ⟨k, gs, mp, mc, mn, hk, rfl, hgk, HST, HC⟩ := hrel
    have hst := HST.out
    obtain ⟨Av, cv, rfl, hjc, hcm⟩ := own_form hst.own
    clear hst
    by_cases hlt : k < n
    · have hltI : (k : Int) < n := by omega
      obtain ⟨gl, o, rfl, _, hgl⟩ := HV.out.addr (by rw [← HN.out]; omega)
      have HVC := hide (fun (W : World) (hb : Only [] w W) => ac_cell (HV.out.only hb (by simp)) (show k < l.length by rw [← HN.out]; exact hlt))
      have hnn := HBD.out (l.getD k (0, 0, 0, 0)) (List.mem_of_getElem? (ac_get (by rw [← HN.out]; exact hlt)))
      obtain ⟨c0, c1, c2, c3⟩ := HVC.out _ HC.out
      generalize l.getD k (0, 0, 0, 0) = x at *
      obtain ⟨kd, lo', md, nn⟩ := x
      simp only at c0 c1 c2 c3 hnn HVC
      obtain ⟨r, hr⟩ : ∃ r, r = md.tmod 1000000 := ⟨_, rfl⟩
      have hrb : -1000000 < r ∧ r < 1000000 := by
        rw [hr]
        have h1 := Int.tmod_lt_of_pos md (show (0 : Int) < 1000000 by decide)
        have h2 := Int.lt_tmod_of_pos md (show (0 : Int) < 1000000 by decide)
        omega
      have hrm := hr.symm
      have hr1 := hrb.1
      have hr2 := hrb.2
      clear hrb hr
      go_upto_if 39 with (fail)
      go_cut [11] (fun mv wr' => ∃ ma, mv = .int .i64 ma ∧ 0 ≤ ma ∧ ma ≤ 1000000 ∧ wr = wr')
      case first =>
        by_cases hneg : r < 0
        · go_wp2_with fail
          go_meet
          exact ⟨-r, (by first | rfl | (congr 1; omega)), by omega, by omega, (by first | rfl | trivial)⟩
        · go_wp2_with fail
          go_meet
          exact ⟨r, rfl, by omega, by omega, (by first | rfl | trivial)⟩
      case rest =>
        obtain ⟨ma, rfl, hm0, hm1, rfl⟩ := hcut
        clear hrm hr1 hr2
        have hm2 : ma ≤ 1125899906842624 := by omega
        go_upto_block 2 with (fail)
        go_cut [9] (fun av' wr' => ∃ (gs' : List PK) (mp' mc' mn' : Option Nat), gs'.length ≤ k + 1 ∧ Hid (ActSt wr' B S M av' gs' mp' mc' mn') ∧ Hid (Only [] w wr'))
        case first =>
          by_cases q0 : kd = 0
          · subst q0
            obtain ⟨bx, hbx⟩ : ∃ bx, (if 0 ≤ enc mn then enc mn else enc mc) = bx := ⟨_, rfl⟩
            have HBXX := hide hbx
            clear hbx
            go_wp2_with (first
              | (go_at_call 24; refine (fresh_any _ lo' ma hm0 hm2).mono ?_; rintro e w3 ⟨g, cg, rfl, hg, hp, ho⟩; have HNG := hide (HST.out.ne_new hg); have HP := hide (PairK.only (show PairK w3 g lo' ma from ⟨cg, hp⟩) ((Only.refl [] w3).alloc (.cells #[.pointer (some ⟨g, 0, none⟩)] 61)) (by simp)); have HST := hide (HST.out.only (ho.alloc (.cells #[.pointer (some ⟨g, 0, none⟩)] 61))); have HC := hide ((HC.out.trans ho).alloc (.cells #[.pointer (some ⟨g, 0, none⟩)] 61)); have HRN := hide (reads_one w3 61 (.pointer (some ⟨g, 0, none⟩)) (w3.heap.size + 1) (Nat.lt_succ_self _)); clear ho hp hg)
              | (at_builtin; refine wpList_append_any _ rfl (.tmp 60) (.tmp 62) 57 rfl B 61 i0 (.pointer none) 1 8 Try.underlying57 hi hz0 hz1 hz2 rfl (by decide) _ gs.length _ rfl HST.out.own _ _ 1 1 [.pointer (some ⟨g, 0, none⟩)] rfl HRN.out (by simp [Value.oneCell']) (by unfold maxLen; omega) (by omega) (by have := HST.out.mem.lt; omega) ?_; intro v1 w4 hown1 hg1 _; have HC := hide (HC.out.grown hg1 (fun j hj => .inr (Nat.le_trans HBW.out (own_block_ge HST.out.own hj)))); have HST := hide (HST.out.push HP.out hm0 hm1 HNG.out hg1 hown1); obtain ⟨c0, c1, c2, c3⟩ := HVC.out _ HC.out; obtain ⟨Av1, cv1, rfl, hjc1, hcm1⟩ := own_form hown1; clear hown1 hg1)
              | (go_at_call 25; refine (begun_any _ S _ _ _ g HST.out.slots).mono ?_; rintro e w5 ⟨rfl, hs5, ho5⟩; have HS5 := hide hs5; have HM5 := hide (HST.out.mem.only ho5 (by rw [List.mem_singleton]; exact fun h => HSM.out h.symm)); have HO5 := hide (ho5.mono (S' := [S, M]) (fun x hx => .inl (by rw [List.mem_singleton.1 hx]; exact List.mem_cons_self))); have m0 := HM5.out.cell 0; have m1 := HM5.out.cell 1; have m2 := HM5.out.cell 2; simp at m0 m1 m2; have f0 := HM5.out.frozen 0; have f1 := HM5.out.frozen 1; have f2 := HM5.out.frozen 2; clear hs5 ho5)
              | (go_at_call 26; refine (refbegun_any _ _ _ _ _).mono ?_; rw [HBXX.out]; rintro e w6 ⟨rfl, ho6⟩; have HS5 := hide (Blk.only HS5.out ho6 (by simp)); have HM5 := hide (HM5.out.only ho6 (by simp)); have HO5 := hide (HO5.out.trans (ho6.mono (fun x hx => by cases hx))); have m0 := HM5.out.cell 0; have m1 := HM5.out.cell 1; have m2 := HM5.out.cell 2; simp at m0 m1 m2; have f0 := HM5.out.frozen 0; have f1 := HM5.out.frozen 1; have f2 := HM5.out.frozen 2; clear ho6))
            go_meet
            refine ⟨gs ++ [(g, lo', ma)], if mn = none then mc else mn, some gs.length, none, (by rw [List.length_append, List.length_singleton]; omega), hide (HST.out.begun ?_ (q := gs.length) (x := (g, lo', ma)) (a := bx) (b := (gs.length : Int)) (by simp) rfl ?_ HBXX.out.symm rfl ?_), hide (only_sm HC.out ?_ HSW.out HMW.out)⟩
            · exact (((HO5.out.setCell (p := ⟨M, 0, none⟩) (.inl (by simp)) _).setCell (p := ⟨M, 1, none⟩) (.inl (by simp)) _).setCell (p := ⟨M, 2, none⟩) (.inl (by simp)) _)
            · exact (((HS5.out.far (p := ⟨M, 0, none⟩) HSM.out _).far (p := ⟨M, 1, none⟩) HSM.out _).far (p := ⟨M, 2, none⟩) HSM.out _)
            · exact (((HM5.out.set_ 0 _).set_ 1 _).set_ 2 _)
            · exact (((HO5.out.setCell (p := ⟨M, 0, none⟩) (.inl (by simp)) _).setCell (p := ⟨M, 1, none⟩) (.inl (by simp)) _).setCell (p := ⟨M, 2, none⟩) (.inl (by simp)) _)
          have e0 : (kd == 0) = false := by rw [beq_eq_false_iff_ne]; exact q0
          by_cases q1 : kd = 1
          · subst q1
            go_wp2_with (first
              | (go_at_call 24; refine (fresh_any _ lo' ma hm0 hm2).mono ?_; rintro e w3 ⟨g, cg, rfl, hg, hp, ho⟩; have HNG := hide (HST.out.ne_new hg); have HP := hide (PairK.only (show PairK w3 g lo' ma from ⟨cg, hp⟩) ((Only.refl [] w3).alloc (.cells #[.pointer (some ⟨g, 0, none⟩)] 61)) (by simp)); have HST := hide (HST.out.only (ho.alloc (.cells #[.pointer (some ⟨g, 0, none⟩)] 61))); have HC := hide ((HC.out.trans ho).alloc (.cells #[.pointer (some ⟨g, 0, none⟩)] 61)); have HRN := hide (reads_one w3 61 (.pointer (some ⟨g, 0, none⟩)) (w3.heap.size + 1) (Nat.lt_succ_self _)); clear ho hp hg)
              | (at_builtin; refine wpList_append_any _ rfl (.tmp 60) (.tmp 62) 57 rfl B 61 i0 (.pointer none) 1 8 Try.underlying57 hi hz0 hz1 hz2 rfl (by decide) _ gs.length _ rfl HST.out.own _ _ 1 1 [.pointer (some ⟨g, 0, none⟩)] rfl HRN.out (by simp [Value.oneCell']) (by unfold maxLen; omega) (by omega) (by have := HST.out.mem.lt; omega) ?_; intro v1 w4 hown1 hg1 _; have HC := hide (HC.out.grown hg1 (fun j hj => .inr (Nat.le_trans HBW.out (own_block_ge HST.out.own hj)))); have HST := hide (HST.out.push HP.out hm0 hm1 HNG.out hg1 hown1); obtain ⟨c0, c1, c2, c3⟩ := HVC.out _ HC.out; obtain ⟨Av1, cv1, rfl, hjc1, hcm1⟩ := own_form hown1; clear hown1 hg1)
              | (go_at_call 27; refine (heard_any _ S _ _ _ g HST.out.slots).mono ?_; rintro e w5 ⟨rfl, hs5, ho5⟩; have HS5 := hide hs5; have HM5 := hide (HST.out.mem.only ho5 (by rw [List.mem_singleton]; exact fun h => HSM.out h.symm)); have HO5 := hide (ho5.mono (S' := [S, M]) (fun x hx => .inl (by rw [List.mem_singleton.1 hx]; exact List.mem_cons_self))); have m0 := HM5.out.cell 0; have m1 := HM5.out.cell 1; have m2 := HM5.out.cell 2; simp at m0 m1 m2; have f0 := HM5.out.frozen 0; have f1 := HM5.out.frozen 1; have f2 := HM5.out.frozen 2; clear hs5 ho5))
            go_meet
            refine ⟨gs ++ [(g, lo', ma)], mp, mc, some gs.length, (by rw [List.length_append, List.length_singleton]; omega), hide (HST.out.heard ?_ (q := gs.length) (x := (g, lo', ma)) (b := (gs.length : Int)) (by simp) rfl ?_ rfl ?_), hide (only_sm HC.out ?_ HSW.out HMW.out)⟩
            · exact (HO5.out.setCell (p := ⟨M, 2, none⟩) (.inl (by simp)) _)
            · exact (HS5.out.far (p := ⟨M, 2, none⟩) HSM.out _)
            · exact (HM5.out.set_ 2 _)
            · exact (HO5.out.setCell (p := ⟨M, 2, none⟩) (.inl (by simp)) _)
          have e1 : (kd == 1) = false := by rw [beq_eq_false_iff_ne]; exact q1
          by_cases q2 : kd = 2
          · subst q2
            go_wp2_with (first
              | (go_at_call 24; refine (fresh_any _ lo' ma hm0 hm2).mono ?_; rintro e w3 ⟨g, cg, rfl, hg, hp, ho⟩; have HNG := hide (HST.out.ne_new hg); have HP := hide (PairK.only (show PairK w3 g lo' ma from ⟨cg, hp⟩) ((Only.refl [] w3).alloc (.cells #[.pointer (some ⟨g, 0, none⟩)] 61)) (by simp)); have HST := hide (HST.out.only (ho.alloc (.cells #[.pointer (some ⟨g, 0, none⟩)] 61))); have HC := hide ((HC.out.trans ho).alloc (.cells #[.pointer (some ⟨g, 0, none⟩)] 61)); have HRN := hide (reads_one w3 61 (.pointer (some ⟨g, 0, none⟩)) (w3.heap.size + 1) (Nat.lt_succ_self _)); clear ho hp hg)
              | (at_builtin; refine wpList_append_any _ rfl (.tmp 60) (.tmp 62) 57 rfl B 61 i0 (.pointer none) 1 8 Try.underlying57 hi hz0 hz1 hz2 rfl (by decide) _ gs.length _ rfl HST.out.own _ _ 1 1 [.pointer (some ⟨g, 0, none⟩)] rfl HRN.out (by simp [Value.oneCell']) (by unfold maxLen; omega) (by omega) (by have := HST.out.mem.lt; omega) ?_; intro v1 w4 hown1 hg1 _; have HC := hide (HC.out.grown hg1 (fun j hj => .inr (Nat.le_trans HBW.out (own_block_ge HST.out.own hj)))); have HST := hide (HST.out.push HP.out hm0 hm1 HNG.out hg1 hown1); obtain ⟨c0, c1, c2, c3⟩ := HVC.out _ HC.out; obtain ⟨Av1, cv1, rfl, hjc1, hcm1⟩ := own_form hown1; clear hown1 hg1)
              | (go_at_call 27; refine (heard_any _ S _ _ _ g HST.out.slots).mono ?_; rintro e w5 ⟨rfl, hs5, ho5⟩; have HS5 := hide hs5; have HM5 := hide (HST.out.mem.only ho5 (by rw [List.mem_singleton]; exact fun h => HSM.out h.symm)); have HO5 := hide (ho5.mono (S' := [S, M]) (fun x hx => .inl (by rw [List.mem_singleton.1 hx]; exact List.mem_cons_self))); have m0 := HM5.out.cell 0; have m1 := HM5.out.cell 1; have m2 := HM5.out.cell 2; simp at m0 m1 m2; have f0 := HM5.out.frozen 0; have f1 := HM5.out.frozen 1; have f2 := HM5.out.frozen 2; clear hs5 ho5))
            go_meet
            refine ⟨gs ++ [(g, lo', ma)], mp, mc, some gs.length, (by rw [List.length_append, List.length_singleton]; omega), hide (HST.out.heard ?_ (q := gs.length) (x := (g, lo', ma)) (b := (gs.length : Int)) (by simp) rfl ?_ rfl ?_), hide (only_sm HC.out ?_ HSW.out HMW.out)⟩
            · exact (HO5.out.setCell (p := ⟨M, 2, none⟩) (.inl (by simp)) _)
            · exact (HS5.out.far (p := ⟨M, 2, none⟩) HSM.out _)
            · exact (HM5.out.set_ 2 _)
            · exact (HO5.out.setCell (p := ⟨M, 2, none⟩) (.inl (by simp)) _)
          have e2 : (kd == 2) = false := by rw [beq_eq_false_iff_ne]; exact q2
          by_cases q3 : kd = 3
          · subst q3
            by_cases hg0 : gs.length = 0
            · have e1 : ((gs.length : Int) == 0) = true := by rw [beq_iff_eq]; omega
              clear hg0
              go_wp2_with (go_at_call 28; refine (confirm_none _ _).mono ?_; rintro e w5 ⟨rfl, rfl⟩)
              go_roundw
              case rel => exact ⟨k + 1, gs, mp, mc, mn, by omega, by go_num, by omega, HST, HC⟩
              case measure => simp [intOf]; omega
            · have e1 : ((gs.length : Int) == 0) = false := by rw [beq_eq_false_iff_ne]; omega
              have hL0 : ¬ (gs.length : Int) = 0 := by omega
              obtain ⟨rN, hrN, hrL⟩ : ∃ rN : Nat, nn.tmod (gs.length : Int) = (rN : Int) ∧ rN < gs.length := by
                have h1 : nn.tmod (gs.length : Int) = nn % (gs.length : Int) := Int.tmod_eq_emod_of_nonneg hnn.1
                have h2 := Int.emod_nonneg nn hL0
                have h3 := Int.emod_lt_of_pos nn (show (0 : Int) < gs.length by omega)
                exact ⟨(nn % (gs.length : Int)).toNat, by rw [h1]; omega, by omega⟩
              obtain ⟨at', hat⟩ : ∃ at' : Nat, (gs.length : Int) - 1 - (rN : Int) = (at' : Int) := ⟨gs.length - 1 - rN, by omega⟩
              have hatl : at' < gs.length := by omega
              have hatI : (at' : Int) < gs.length := by omega
              obtain ⟨y, hy⟩ : ∃ y, gs[at']? = some y := ⟨_, List.getElem?_eq_getElem hatl⟩
              obtain ⟨g9, o9, rfl, _, _, hcx⟩ := HST.out.st.all.at_.2.2.2 at' (pv (some y.1)) (by simp [ptrs, hy])
              simp only [pv] at hcx
              have HPY := hide (HST.out.pairs y (List.mem_of_getElem? hy)).1.at_
              have HYY := hide hy
              have m0 := HST.out.mem.cell 0; have m1 := HST.out.mem.cell 1; have m2 := HST.out.mem.cell 2; simp at m0 m1 m2
              by_cases hmn : mn = some at'
              · subst hmn
                simp only [enc_some] at m2
                have HSY := hide (show SlotsIs wr S (blkO (getO gs mp)) (blkO (getO gs mc)) (some y.1) by have h := HST.out.slots; rw [show blkO (getO gs (some at')) = some y.1 by show blkO (gs[at']?) = _; rw [hy]; rfl] at h; exact h)
                clear hy hatl hg0
                go_wp2_with (first
                  | (go_at_call 28; refine (confirm_yes _ S _ _ y.1 HSY.out).mono ?_; rintro e w5 ⟨rfl, hs5, ho5⟩; have HS5 := hide hs5; have HM5 := hide (HST.out.mem.only ho5 (by rw [List.mem_singleton]; exact fun h => HSM.out h.symm)); have HO5 := hide (ho5.mono (S' := [S, M]) (fun x hx => .inl (by rw [List.mem_singleton.1 hx]; exact List.mem_cons_self))); have m0 := HM5.out.cell 0; have m1 := HM5.out.cell 1; have m2 := HM5.out.cell 2; simp at m0 m1 m2; have f0 := HM5.out.frozen 0; have f1 := HM5.out.frozen 1; have f2 := HM5.out.frozen 2; clear hs5 ho5)
                  | (go_at_call 29; refine (refshift_any _ _ _ _ _).mono ?_; rintro e w6 ⟨rfl, ho6⟩; have HS5 := hide (Blk.only HS5.out ho6 (by simp)); have HM5 := hide (HM5.out.only ho6 (by simp)); have HO5 := hide (HO5.out.trans (ho6.mono (fun x hx => by cases hx))); have m0 := HM5.out.cell 0; have m1 := HM5.out.cell 1; have m2 := HM5.out.cell 2; simp at m0 m1 m2; have f0 := HM5.out.frozen 0; have f1 := HM5.out.frozen 1; have f2 := HM5.out.frozen 2; clear ho6))
                go_meet
                refine ⟨gs, mc, some at', none, by omega, hide (HST.out.confirmed ?_ (g := y.1) (x := y) (b := (at' : Int)) HYY.out rfl ?_ rfl ?_), hide (only_sm HC.out ?_ HSW.out HMW.out)⟩
                · exact (((HO5.out.setCell (p := ⟨M, 0, none⟩) (.inl (by simp)) _).setCell (p := ⟨M, 1, none⟩) (.inl (by simp)) _).setCell (p := ⟨M, 2, none⟩) (.inl (by simp)) _)
                · exact (((HS5.out.far (p := ⟨M, 0, none⟩) HSM.out _).far (p := ⟨M, 1, none⟩) HSM.out _).far (p := ⟨M, 2, none⟩) HSM.out _)
                · exact (((HM5.out.set_ 0 _).set_ 1 _).set_ 2 _)
                · exact (((HO5.out.setCell (p := ⟨M, 0, none⟩) (.inl (by simp)) _).setCell (p := ⟨M, 1, none⟩) (.inl (by simp)) _).setCell (p := ⟨M, 2, none⟩) (.inl (by simp)) _)
              · have e2 : (enc mn == (at' : Int)) = false := by rw [beq_eq_false_iff_ne]; exact fun h => hmn ((enc_eq mn at').1 h)
                have HNE := hide (show blkO (getO gs mn) ≠ some y.1 from fun h => by
                  cases mn with
                  | none => cases h
                  | some i =>
                    have hil := HST.out.inx i rfl
                    obtain ⟨z, hz⟩ : ∃ z, gs[i]? = some z := ⟨_, List.getElem?_eq_getElem hil⟩
                    have h1 : blkO (getO gs (some i)) = some z.1 := by show blkO (gs[i]?) = _; rw [hz]; rfl
                    rw [h1] at h
                    injection h with h
                    exact HST.out.other hz hy (fun e => hmn (by rw [e])) h)
                have HPN := hide (show ∀ m, blkO (getO gs mn) = some m → PairAt wr m from fun m hm => by
                  cases mn with
                  | none => cases hm
                  | some i =>
                    have hil := HST.out.inx i rfl
                    obtain ⟨z, hz⟩ : ∃ z, gs[i]? = some z := ⟨_, List.getElem?_eq_getElem hil⟩
                    have h1 : blkO (getO gs (some i)) = some z.1 := by show blkO (gs[i]?) = _; rw [hz]; rfl
                    rw [h1] at hm
                    injection hm with hm
                    rw [← hm]
                    exact (HST.out.pairs z (List.mem_of_getElem? hz)).1.at_)
                clear hy hatl hg0 hmn
                go_wp2_with (go_at_call 28; refine (confirm_no _ S _ _ _ y.1 HST.out.slots HNE.out HPY.out HPN.out).mono ?_; rintro e w5 ⟨rfl, rfl⟩)
                go_meet
                exact ⟨gs, mp, mc, mn, by omega, HST, HC⟩
          have e3 : (kd == 3) = false := by rw [beq_eq_false_iff_ne]; exact q3
          by_cases q4 : kd = 4
          · subst q4
            by_cases hg0 : gs.length = 0
            · have e1 : ((gs.length : Int) == 0) = true := by rw [beq_iff_eq]; omega
              clear hg0
              go_wp2_with (go_at_call 28; refine (confirm_none _ _).mono ?_; rintro e w5 ⟨rfl, rfl⟩)
              go_roundw
              case rel => exact ⟨k + 1, gs, mp, mc, mn, by omega, by go_num, by omega, HST, HC⟩
              case measure => simp [intOf]; omega
            · have e1 : ((gs.length : Int) == 0) = false := by rw [beq_eq_false_iff_ne]; omega
              have hL0 : ¬ (gs.length : Int) = 0 := by omega
              obtain ⟨rN, hrN, hrL⟩ : ∃ rN : Nat, nn.tmod (gs.length : Int) = (rN : Int) ∧ rN < gs.length := by
                have h1 : nn.tmod (gs.length : Int) = nn % (gs.length : Int) := Int.tmod_eq_emod_of_nonneg hnn.1
                have h2 := Int.emod_nonneg nn hL0
                have h3 := Int.emod_lt_of_pos nn (show (0 : Int) < gs.length by omega)
                exact ⟨(nn % (gs.length : Int)).toNat, by rw [h1]; omega, by omega⟩
              obtain ⟨at', hat⟩ : ∃ at' : Nat, (gs.length : Int) - 1 - (rN : Int) = (at' : Int) := ⟨gs.length - 1 - rN, by omega⟩
              have hatl : at' < gs.length := by omega
              have hatI : (at' : Int) < gs.length := by omega
              obtain ⟨y, hy⟩ : ∃ y, gs[at']? = some y := ⟨_, List.getElem?_eq_getElem hatl⟩
              obtain ⟨g9, o9, rfl, _, _, hcx⟩ := HST.out.st.all.at_.2.2.2 at' (pv (some y.1)) (by simp [ptrs, hy])
              simp only [pv] at hcx
              have HPY := hide (HST.out.pairs y (List.mem_of_getElem? hy)).1.at_
              have HYY := hide hy
              have m0 := HST.out.mem.cell 0; have m1 := HST.out.mem.cell 1; have m2 := HST.out.mem.cell 2; simp at m0 m1 m2
              by_cases hmn : mn = some at'
              · subst hmn
                simp only [enc_some] at m2
                have HSY := hide (show SlotsIs wr S (blkO (getO gs mp)) (blkO (getO gs mc)) (some y.1) by have h := HST.out.slots; rw [show blkO (getO gs (some at')) = some y.1 by show blkO (gs[at']?) = _; rw [hy]; rfl] at h; exact h)
                clear hy hatl hg0
                go_wp2_with (first
                  | (go_at_call 28; refine (confirm_yes _ S _ _ y.1 HSY.out).mono ?_; rintro e w5 ⟨rfl, hs5, ho5⟩; have HS5 := hide hs5; have HM5 := hide (HST.out.mem.only ho5 (by rw [List.mem_singleton]; exact fun h => HSM.out h.symm)); have HO5 := hide (ho5.mono (S' := [S, M]) (fun x hx => .inl (by rw [List.mem_singleton.1 hx]; exact List.mem_cons_self))); have m0 := HM5.out.cell 0; have m1 := HM5.out.cell 1; have m2 := HM5.out.cell 2; simp at m0 m1 m2; have f0 := HM5.out.frozen 0; have f1 := HM5.out.frozen 1; have f2 := HM5.out.frozen 2; clear hs5 ho5)
                  | (go_at_call 29; refine (refshift_any _ _ _ _ _).mono ?_; rintro e w6 ⟨rfl, ho6⟩; have HS5 := hide (Blk.only HS5.out ho6 (by simp)); have HM5 := hide (HM5.out.only ho6 (by simp)); have HO5 := hide (HO5.out.trans (ho6.mono (fun x hx => by cases hx))); have m0 := HM5.out.cell 0; have m1 := HM5.out.cell 1; have m2 := HM5.out.cell 2; simp at m0 m1 m2; have f0 := HM5.out.frozen 0; have f1 := HM5.out.frozen 1; have f2 := HM5.out.frozen 2; clear ho6))
                go_meet
                refine ⟨gs, mc, some at', none, by omega, hide (HST.out.confirmed ?_ (g := y.1) (x := y) (b := (at' : Int)) HYY.out rfl ?_ rfl ?_), hide (only_sm HC.out ?_ HSW.out HMW.out)⟩
                · exact (((HO5.out.setCell (p := ⟨M, 0, none⟩) (.inl (by simp)) _).setCell (p := ⟨M, 1, none⟩) (.inl (by simp)) _).setCell (p := ⟨M, 2, none⟩) (.inl (by simp)) _)
                · exact (((HS5.out.far (p := ⟨M, 0, none⟩) HSM.out _).far (p := ⟨M, 1, none⟩) HSM.out _).far (p := ⟨M, 2, none⟩) HSM.out _)
                · exact (((HM5.out.set_ 0 _).set_ 1 _).set_ 2 _)
                · exact (((HO5.out.setCell (p := ⟨M, 0, none⟩) (.inl (by simp)) _).setCell (p := ⟨M, 1, none⟩) (.inl (by simp)) _).setCell (p := ⟨M, 2, none⟩) (.inl (by simp)) _)
              · have e2 : (enc mn == (at' : Int)) = false := by rw [beq_eq_false_iff_ne]; exact fun h => hmn ((enc_eq mn at').1 h)
                have HNE := hide (show blkO (getO gs mn) ≠ some y.1 from fun h => by
                  cases mn with
                  | none => cases h
                  | some i =>
                    have hil := HST.out.inx i rfl
                    obtain ⟨z, hz⟩ : ∃ z, gs[i]? = some z := ⟨_, List.getElem?_eq_getElem hil⟩
                    have h1 : blkO (getO gs (some i)) = some z.1 := by show blkO (gs[i]?) = _; rw [hz]; rfl
                    rw [h1] at h
                    injection h with h
                    exact HST.out.other hz hy (fun e => hmn (by rw [e])) h)
                have HPN := hide (show ∀ m, blkO (getO gs mn) = some m → PairAt wr m from fun m hm => by
                  cases mn with
                  | none => cases hm
                  | some i =>
                    have hil := HST.out.inx i rfl
                    obtain ⟨z, hz⟩ : ∃ z, gs[i]? = some z := ⟨_, List.getElem?_eq_getElem hil⟩
                    have h1 : blkO (getO gs (some i)) = some z.1 := by show blkO (gs[i]?) = _; rw [hz]; rfl
                    rw [h1] at hm
                    injection hm with hm
                    rw [← hm]
                    exact (HST.out.pairs z (List.mem_of_getElem? hz)).1.at_)
                clear hy hatl hg0 hmn
                go_wp2_with (go_at_call 28; refine (confirm_no _ S _ _ _ y.1 HST.out.slots HNE.out HPY.out HPN.out).mono ?_; rintro e w5 ⟨rfl, rfl⟩)
                go_meet
                exact ⟨gs, mp, mc, mn, by omega, HST, HC⟩
          have e4 : (kd == 4) = false := by rw [beq_eq_false_iff_ne]; exact q4
          by_cases q5 : kd = 5
          · subst q5
            have HE := hide (show cnt (blkO (getO gs mp)) + cnt (blkO (getO gs mc)) + cnt (blkO (getO gs mn)) = cntI (enc mp) + cntI (enc mc) + cntI (enc mn) by rw [cnt_enc gs mp HST.out.ip, cnt_enc gs mc HST.out.ic, cnt_enc gs mn HST.out.inx])
            have m0 := HST.out.mem.cell 0; have m1 := HST.out.mem.cell 1; have m2 := HST.out.mem.cell 2; simp at m0 m1 m2
            go_upto_region 41 with (fail)
            go_region_held3 (fun w' => w'.cell? ⟨M, 0, none⟩ = some (.int .i64 (enc mp)) ∧ w'.cell? ⟨M, 1, none⟩ = some (.int .i64 (enc mc)) ∧ w'.cell? ⟨M, 2, none⟩ = some (.int .i64 (enc mn))) (exact ⟨m0, m1, m2⟩) (first
              | (go_at_call 30; refine (erase_any _ S _ _ _ (Blk.drew HST.out.slots)).mono ?_; rw [HE.out]; rintro e w5 ⟨rfl, hs5, ho5⟩; have ho5 := undrew0 ho5; have HS5 := hide hs5; have HM5 := hide (HST.out.mem.only ho5 (by rw [List.mem_singleton]; exact fun h => HSM.out h.symm)); have HO5 := hide (ho5.mono (S' := [S, M]) (fun x hx => .inl (by rw [List.mem_singleton.1 hx]; exact List.mem_cons_self))); have m0 := HM5.out.cell 0; have m1 := HM5.out.cell 1; have m2 := HM5.out.cell 2; simp at m0 m1 m2; have f0 := HM5.out.frozen 0; have f1 := HM5.out.frozen 1; have f2 := HM5.out.frozen 2; clear hs5 ho5)
              | (go_at_call 31; refine (refcount_any _ _ _ _).mono ?_; rintro e w6 ⟨rfl, ho6⟩; have HS5 := hide (Blk.only HS5.out ho6 (by simp)); have HM5 := hide (HM5.out.only ho6 (by simp)); have HO5 := hide (HO5.out.trans (ho6.mono (fun x hx => by cases hx))); have m0 := HM5.out.cell 0; have m1 := HM5.out.cell 1; have m2 := HM5.out.cell 2; simp at m0 m1 m2; have f0 := HM5.out.frozen 0; have f1 := HM5.out.frozen 1; have f2 := HM5.out.frozen 2; clear ho6))
            all_goals
              go_wp2_with fail
              go_meet
              refine ⟨gs, none, none, none, by omega, hide (HST.out.erased ?_ ?_ ?_), hide (only_sm HC.out ?_ HSW.out HMW.out)⟩
              · exact (((HO5.out.setCell (p := ⟨M, 0, none⟩) (.inl (by simp)) _).setCell (p := ⟨M, 1, none⟩) (.inl (by simp)) _).setCell (p := ⟨M, 2, none⟩) (.inl (by simp)) _)
              · exact (((HS5.out.far (p := ⟨M, 0, none⟩) HSM.out _).far (p := ⟨M, 1, none⟩) HSM.out _).far (p := ⟨M, 2, none⟩) HSM.out _)
              · exact (((HM5.out.set_ 0 _).set_ 1 _).set_ 2 _)
              · exact (((HO5.out.setCell (p := ⟨M, 0, none⟩) (.inl (by simp)) _).setCell (p := ⟨M, 1, none⟩) (.inl (by simp)) _).setCell (p := ⟨M, 2, none⟩) (.inl (by simp)) _)
          have e5 : (kd == 5) = false := by rw [beq_eq_false_iff_ne]; exact q5
          go_wp2_with fail
          go_meet
          exact ⟨gs, mp, mc, mn, by omega, HST, HC⟩
        case rest =>
          clear HST HC c0 c1 c2 c3
          obtain ⟨gs', mp', mc', mn', hgl', HST, HC⟩ := hcut
          have hst := HST.out
          obtain ⟨Av', cv', rfl, hjc', hcm'⟩ := own_form hst.own
          clear hst
          go_wp2_with fail
          go_loopw [15] (fun tv wr2 => ∃ t : Nat, t ≤ 5 ∧ tv = .int .i64 t ∧ Hid (ActSt wr2 B S M (.slice Av' gs'.length cv') gs' mp' mc' mn') ∧ Hid (Only [] w wr2)) (fun tv _ => 5 - (intOf tv).toNat)
          case atStart => exact ⟨0, by omega, rfl, HST, HC⟩
          case round =>
            clear HST HC
            obtain ⟨t, ht, rfl, HST, HC⟩ := hrel
            by_cases htl : t < 5
            · have htI : (t : Int) ≤ 4 := by omega
              have m0 := HST.out.mem.cell 0; have m1 := HST.out.mem.cell 1; have m2 := HST.out.mem.cell 2; simp at m0 m1 m2
              obtain ⟨ai, hai⟩ : ∃ ai, ai = atI mp' mc' mn' (t : Int) := ⟨_, rfl⟩
              have HAT := hide (fun (W : World) (hs : SlotsIs W S (blkO (getO gs' mp')) (blkO (getO gs' mc')) (blkO (getO gs' mn'))) => (at_any W S _ _ _ (t : Int) hs).mono (R' := fun e w' => e = .returned (pv (blkO (getO gs' ai))) ∧ W = w') fun e w' h => ⟨by rw [h.1, at_blk, ← hai], h.2⟩)
              have HRA := hide (fun W => (refat_any W (enc mp') (enc mc') (enc mn') (t : Int)).mono (R' := fun e w' => e = .returned (.int .i64 (enc ai)) ∧ Only [] W w') fun e w' h => ⟨by rw [h.1, at3_enc, ← hai], h.2⟩)
              have hai2 := HST.out.st.iat (t : Int)
              rw [← hai] at hai2
              clear hai
              rcases ai with _ | x
              · simp only [enc_none] at HRA
                have HAT := hide (fun (W : World) (hs : SlotsIs W S (blkO (getO gs' mp')) (blkO (getO gs' mc')) (blkO (getO gs' mn'))) => (show Calls Try.prog 32 #[.pointer (some ⟨S, 0, none⟩), .int .i64 t] W fun e w' => e = .returned (.pointer none) ∧ W = w' from HAT.out W hs))
                clear hai2
                go_wp2_with (first
                  | (go_at_call 32; refine (HAT.out _ HST.out.slots).mono ?_; rintro e w8 ⟨rfl, rfl⟩)
                  | (go_at_call 33; refine (HRA.out _).mono ?_; rintro e w9 ⟨rfl, ho⟩; have HST := hide (HST.out.only ho); have HC := hide (HC.out.trans ho); clear ho))
                go_roundw
                case rel => exact ⟨t + 1, by omega, by go_num, HST, HC⟩
                case measure => simp [intOf]; omega
              · have hxl := hai2 x rfl
                obtain ⟨y, hy⟩ : ∃ y, gs'[x]? = some y := ⟨_, List.getElem?_eq_getElem hxl⟩
                have hxI : (x : Int) < gs'.length := by omega
                have hx0 : ¬ (x : Int) < 0 := by omega
                simp only [enc_some] at HRA
                have HAT := hide (fun (W : World) (hs : SlotsIs W S (blkO (getO gs' mp')) (blkO (getO gs' mc')) (blkO (getO gs' mn'))) => (HAT.out W hs).mono (R' := fun e w' => e = .returned (.pointer (some ⟨y.1, 0, none⟩)) ∧ W = w') fun e w' h => ⟨by rw [h.1, show pv (blkO (getO gs' (some x))) = .pointer (some ⟨y.1, 0, none⟩) by show pv (blkO (gs'[x]?)) = _; rw [hy]; rfl], h.2⟩)
                have HALL := hide (fun (W : World) (h : ActSt W B S M (.slice Av' gs'.length cv') gs' mp' mc' mn') => h.st.all.at_.2.2.2 x (pv (some y.1)) (by simp [ptrs, hy]))
                obtain ⟨g9, o9, rfl, _, _, hcx⟩ := HALL.out _ HST.out
                have HALC := hide (fun (W : World) (h : ActSt W B S M (.slice (some ⟨g9, o9, none⟩) gs'.length cv') gs' mp' mc' mn') => (by
                  obtain ⟨g', o', hA, _, _, hc⟩ := HALL.out W h
                  injection hA with hA
                  injection hA with e1 e2
                  subst e1 e2
                  exact hc : W.cell? ⟨g9, o9 + x, none⟩ = some (.pointer (some ⟨y.1, 0, none⟩))))
                have hns := fun W => neq_same W y.1
                clear hai2 hy HALL hcx
                go_wp2_with (first
                  | (go_at_call 32; refine (HAT.out _ HST.out.slots).mono ?_; rintro e w8 ⟨rfl, rfl⟩)
                  | (go_at_call 33; refine (HRA.out _).mono ?_; rintro e w9 ⟨rfl, ho⟩; have HST := hide (HST.out.only ho); have HC := hide (HC.out.trans ho); have hcx := HALC.out _ HST.out; clear ho))
                go_roundw
                case rel => exact ⟨t + 1, by omega, by go_num, HST, HC⟩
                case measure => simp [intOf]; omega
            · obtain rfl : t = 5 := by omega
              go_wp2_with fail
              go_roundw
              case rel => exact ⟨k + 1, gs', mp', mc', mn', by omega, by go_num, hgl', HST, HC⟩
              case measure => simp [intOf]; omega
    · obtain rfl : k = n := by omega
      have hge : ¬ (k : Int) < k := by omega
      have m0 := HST.out.mem.cell 0; have m1 := HST.out.mem.cell 1; have m2 := HST.out.mem.cell 2; simp at m0 m1 m2
      go_wp2_with (go_at_call 34; refine (asked_any _ S _ gs mp mc mn lo now HST.out.st (by omega)).mono ?_; rintro e w9 ⟨rfl, ho⟩; have HC := hide (HC.out.trans ho); clear ho)
      go_ret
      exact ⟨rfl, HC.out⟩
end Go.Proofs.Ytjkgmkkhjpcngaa

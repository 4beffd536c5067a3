/-
  Walks and plain words (texts Ms7). No condition beyond those that each theorem states.
-/
import Derived.Test.YtfipdjlalfpbnaaGreatDoorM33
import Derived.Test.YtfipdjlalfpbnaaGreatDoorM35
import Derived.Test.YtfipdjlalfpbnaaGreatDoorM36
import Derived.Test.YtfipdjlalfpbnaaGreatDoorM37
namespace Go.Proofs.YtfipdjlalfpbnaaGreatDoor
section
open Go.RowKit Go.Deep

set_option maxRecDepth 100000 in
set_option maxHeartbeats 12800000 in
theorem bigh_3 (m : Mg) (ta tb tc : ByteArray) : ∃ r : Bool, (r = false → (ta.size ≤ 200 ∧ tb.size ≤ 200 ∧ tc.size ≤ 200) ∧ heavyV m 3000 = false) ∧ ∀ (w : World) (G : Nat), G = w.heap.size → Calls Tryz.prog 11 #[.agg m.cells, .slice (some ⟨G, 0, none⟩) 3 3] (w.alloc (.cells #[.string ta, .string tb, .string tc] 9)) (RetB r w) := by
  have HH := hide (fun W => Heavy_any m 3000 W)
  unfold RetB at HH
  obtain ⟨hbig, hbe⟩ : ∃ b, heavyV m 3000 = b := ⟨_, rfl⟩
  rw [hbe] at HH ⊢
  clear hbe
  obtain ⟨k, s, r, c, x4, x5, x6, x7, x8, x9, x10, x11, x12⟩ := m
  unfold Mg.cells at HH ⊢
  simp only at HH ⊢
  by_cases hta : 200 < ta.size
  · refine ⟨true, (fun h => by cases h), ?_⟩
    have qta : (200 : Int) < ta.size := by omega
    clear hta
    intro w G hG
    subst hG
    have HSB := hide ((Blk.new w 9 #[.string ta, .string tb, .string tc]).alloc (.cells #[.int .i64 k, .int .u32 (s : Nat), .int .u32 (r : Nat), .int .u64 (c : Nat), .string x4, .string x5, .string x6, .string x7, .string x8, .string x9, .string x10, .string x11, .string x12] 25))
    have HO := hide (((Only.refl [] w).alloc (.cells #[.string ta, .string tb, .string tc] 9)).alloc (.cells #[.int .i64 k, .int .u32 (s : Nat), .int .u32 (r : Nat), .int .u64 (c : Nat), .string x4, .string x5, .string x6, .string x7, .string x8, .string x9, .string x10, .string x11, .string x12] 25))
    have HMB := hide (Blk.new (w.alloc (.cells #[.string ta, .string tb, .string tc] 9)) 25 #[.int .i64 k, .int .u32 (s : Nat), .int .u32 (r : Nat), .int .u64 (c : Nat), .string x4, .string x5, .string x6, .string x7, .string x8, .string x9, .string x10, .string x11, .string x12])
    rw [World.size_alloc] at HMB
    go_enter Tryz.func11, Tryz.ntmps11
    go_wp2_with fail
    generalize ((w.alloc (.cells #[.string ta, .string tb, .string tc] 9)).alloc (.cells #[.int .i64 k, .int .u32 (s : Nat), .int .u32 (r : Nat), .int .u64 (c : Nat), .string x4, .string x5, .string x6, .string x7, .string x8, .string x9, .string x10, .string x11, .string x12] 25)) = W at *
    have s0 := HSB.out.cell 0; have s1 := HSB.out.cell 1; have s2 := HSB.out.cell 2
    simp at s0 s1 s2
    have m0 := HMB.out.cell 0; have m1 := HMB.out.cell 1; have m2 := HMB.out.cell 2; have m3 := HMB.out.cell 3; have m4 := HMB.out.cell 4; have m5 := HMB.out.cell 5; have m6 := HMB.out.cell 6; have m7 := HMB.out.cell 7; have m8 := HMB.out.cell 8; have m9 := HMB.out.cell 9; have m10 := HMB.out.cell 10; have m11 := HMB.out.cell 11; have m12 := HMB.out.cell 12; simp at m0 m1 m2 m3 m4 m5 m6 m7 m8 m9 m10 m11 m12
    refine wp_loop_rounds 4 ?_
    rw [rounds_succ]
    go_wp2_with fail
    go_ret
    exact retb rfl HO.out
  · skip
    by_cases htb : 200 < tb.size
    · refine ⟨true, (fun h => by cases h), ?_⟩
      have qtb : (200 : Int) < tb.size := by omega
      have qta : ¬ (200 : Int) < ta.size := by omega
      clear hta htb
      intro w G hG
      subst hG
      have HSB := hide ((Blk.new w 9 #[.string ta, .string tb, .string tc]).alloc (.cells #[.int .i64 k, .int .u32 (s : Nat), .int .u32 (r : Nat), .int .u64 (c : Nat), .string x4, .string x5, .string x6, .string x7, .string x8, .string x9, .string x10, .string x11, .string x12] 25))
      have HO := hide (((Only.refl [] w).alloc (.cells #[.string ta, .string tb, .string tc] 9)).alloc (.cells #[.int .i64 k, .int .u32 (s : Nat), .int .u32 (r : Nat), .int .u64 (c : Nat), .string x4, .string x5, .string x6, .string x7, .string x8, .string x9, .string x10, .string x11, .string x12] 25))
      have HMB := hide (Blk.new (w.alloc (.cells #[.string ta, .string tb, .string tc] 9)) 25 #[.int .i64 k, .int .u32 (s : Nat), .int .u32 (r : Nat), .int .u64 (c : Nat), .string x4, .string x5, .string x6, .string x7, .string x8, .string x9, .string x10, .string x11, .string x12])
      rw [World.size_alloc] at HMB
      go_enter Tryz.func11, Tryz.ntmps11
      go_wp2_with fail
      generalize ((w.alloc (.cells #[.string ta, .string tb, .string tc] 9)).alloc (.cells #[.int .i64 k, .int .u32 (s : Nat), .int .u32 (r : Nat), .int .u64 (c : Nat), .string x4, .string x5, .string x6, .string x7, .string x8, .string x9, .string x10, .string x11, .string x12] 25)) = W at *
      have s0 := HSB.out.cell 0; have s1 := HSB.out.cell 1; have s2 := HSB.out.cell 2
      simp at s0 s1 s2
      have m0 := HMB.out.cell 0; have m1 := HMB.out.cell 1; have m2 := HMB.out.cell 2; have m3 := HMB.out.cell 3; have m4 := HMB.out.cell 4; have m5 := HMB.out.cell 5; have m6 := HMB.out.cell 6; have m7 := HMB.out.cell 7; have m8 := HMB.out.cell 8; have m9 := HMB.out.cell 9; have m10 := HMB.out.cell 10; have m11 := HMB.out.cell 11; have m12 := HMB.out.cell 12; simp at m0 m1 m2 m3 m4 m5 m6 m7 m8 m9 m10 m11 m12
      refine wp_loop_rounds 4 ?_
      rw [rounds_succ]
      go_wp2_with fail
      rw [rounds_succ]
      go_wp2_with fail
      go_ret
      exact retb rfl HO.out
    · skip
      by_cases htc : 200 < tc.size
      · refine ⟨true, (fun h => by cases h), ?_⟩
        have qtc : (200 : Int) < tc.size := by omega
        have qta : ¬ (200 : Int) < ta.size := by omega
        have qtb : ¬ (200 : Int) < tb.size := by omega
        clear hta htb htc
        intro w G hG
        subst hG
        have HSB := hide ((Blk.new w 9 #[.string ta, .string tb, .string tc]).alloc (.cells #[.int .i64 k, .int .u32 (s : Nat), .int .u32 (r : Nat), .int .u64 (c : Nat), .string x4, .string x5, .string x6, .string x7, .string x8, .string x9, .string x10, .string x11, .string x12] 25))
        have HO := hide (((Only.refl [] w).alloc (.cells #[.string ta, .string tb, .string tc] 9)).alloc (.cells #[.int .i64 k, .int .u32 (s : Nat), .int .u32 (r : Nat), .int .u64 (c : Nat), .string x4, .string x5, .string x6, .string x7, .string x8, .string x9, .string x10, .string x11, .string x12] 25))
        have HMB := hide (Blk.new (w.alloc (.cells #[.string ta, .string tb, .string tc] 9)) 25 #[.int .i64 k, .int .u32 (s : Nat), .int .u32 (r : Nat), .int .u64 (c : Nat), .string x4, .string x5, .string x6, .string x7, .string x8, .string x9, .string x10, .string x11, .string x12])
        rw [World.size_alloc] at HMB
        go_enter Tryz.func11, Tryz.ntmps11
        go_wp2_with fail
        generalize ((w.alloc (.cells #[.string ta, .string tb, .string tc] 9)).alloc (.cells #[.int .i64 k, .int .u32 (s : Nat), .int .u32 (r : Nat), .int .u64 (c : Nat), .string x4, .string x5, .string x6, .string x7, .string x8, .string x9, .string x10, .string x11, .string x12] 25)) = W at *
        have s0 := HSB.out.cell 0; have s1 := HSB.out.cell 1; have s2 := HSB.out.cell 2
        simp at s0 s1 s2
        have m0 := HMB.out.cell 0; have m1 := HMB.out.cell 1; have m2 := HMB.out.cell 2; have m3 := HMB.out.cell 3; have m4 := HMB.out.cell 4; have m5 := HMB.out.cell 5; have m6 := HMB.out.cell 6; have m7 := HMB.out.cell 7; have m8 := HMB.out.cell 8; have m9 := HMB.out.cell 9; have m10 := HMB.out.cell 10; have m11 := HMB.out.cell 11; have m12 := HMB.out.cell 12; simp at m0 m1 m2 m3 m4 m5 m6 m7 m8 m9 m10 m11 m12
        refine wp_loop_rounds 4 ?_
        rw [rounds_succ]
        go_wp2_with fail
        rw [rounds_succ]
        go_wp2_with fail
        rw [rounds_succ]
        go_wp2_with fail
        go_ret
        exact retb rfl HO.out
      · skip
        refine ⟨hbig, fun h => ⟨⟨by omega, by omega, by omega⟩, h⟩, ?_⟩
        have qta : ¬ (200 : Int) < ta.size := by omega
        have qtb : ¬ (200 : Int) < tb.size := by omega
        have qtc : ¬ (200 : Int) < tc.size := by omega
        clear hta htb htc
        intro w G hG
        subst hG
        have HSB := hide ((Blk.new w 9 #[.string ta, .string tb, .string tc]).alloc (.cells #[.int .i64 k, .int .u32 (s : Nat), .int .u32 (r : Nat), .int .u64 (c : Nat), .string x4, .string x5, .string x6, .string x7, .string x8, .string x9, .string x10, .string x11, .string x12] 25))
        have HO := hide (((Only.refl [] w).alloc (.cells #[.string ta, .string tb, .string tc] 9)).alloc (.cells #[.int .i64 k, .int .u32 (s : Nat), .int .u32 (r : Nat), .int .u64 (c : Nat), .string x4, .string x5, .string x6, .string x7, .string x8, .string x9, .string x10, .string x11, .string x12] 25))
        have HMB := hide (Blk.new (w.alloc (.cells #[.string ta, .string tb, .string tc] 9)) 25 #[.int .i64 k, .int .u32 (s : Nat), .int .u32 (r : Nat), .int .u64 (c : Nat), .string x4, .string x5, .string x6, .string x7, .string x8, .string x9, .string x10, .string x11, .string x12])
        rw [World.size_alloc] at HMB
        go_enter Tryz.func11, Tryz.ntmps11
        go_wp2_with fail
        generalize ((w.alloc (.cells #[.string ta, .string tb, .string tc] 9)).alloc (.cells #[.int .i64 k, .int .u32 (s : Nat), .int .u32 (r : Nat), .int .u64 (c : Nat), .string x4, .string x5, .string x6, .string x7, .string x8, .string x9, .string x10, .string x11, .string x12] 25)) = W at *
        have s0 := HSB.out.cell 0; have s1 := HSB.out.cell 1; have s2 := HSB.out.cell 2
        simp at s0 s1 s2
        have m0 := HMB.out.cell 0; have m1 := HMB.out.cell 1; have m2 := HMB.out.cell 2; have m3 := HMB.out.cell 3; have m4 := HMB.out.cell 4; have m5 := HMB.out.cell 5; have m6 := HMB.out.cell 6; have m7 := HMB.out.cell 7; have m8 := HMB.out.cell 8; have m9 := HMB.out.cell 9; have m10 := HMB.out.cell 10; have m11 := HMB.out.cell 11; have m12 := HMB.out.cell 12; simp at m0 m1 m2 m3 m4 m5 m6 m7 m8 m9 m10 m11 m12
        refine wp_loop_rounds 4 ?_
        rw [rounds_succ]
        go_wp2_with fail
        rw [rounds_succ]
        go_wp2_with fail
        rw [rounds_succ]
        go_wp2_with fail
        rw [rounds_succ]
        go_wp2_with (go_at_call 28; refine (HH.out _).mono ?_; rintro e w2 ⟨rfl, ho⟩; replace HO := hide (HO.out.trans ho); clear ho)
        go_ret
        exact retb rfl HO.out
theorem not_heavy {m : Mg} (h : startsM m = true) (hv : heavyV m 3000 = false) : sizesM m ≤ 3000 := by
  rw [heavy_right (starts_is h).1, decide_eq_false_iff_not] at hv
  unfold sizesM
  omega
theorem Sign_all (w : World) (m : Mg) (p c2 : ByteArray) (hF : m.Fine) (hk0 : -9223372036854775808 ≤ m.k) (hp : p.size ≤ maxLen) (hc : c2.size ≤ maxLen) (htab : Tab w) : Calls Tryz.prog 12 #[.agg m.cells, .string p, .string c2] w (SignPost (signMV m p c2) w) := by
  cases hb : okSign m p c2 with
  | false => exact Sign_bad w m p c2 hF hk0 hp hc htab hb
  | true =>
    by_cases hce : c2 = ByteArray.empty
    · cases hr : rightM (sign2 m p c2) with
      | false => exact Sign_nol w m p c2 hF hk0 hp hc htab hb hce hr
      | true => exact Sign_no w m p c2 hF hk0 hp hc htab hb hce hr
    · exact Sign_yes w m p c2 hF hk0 hp hc htab hb hce ((ok_is hb).2.2.resolve_left hce)
theorem c_empty (p : ByteArray) : p.toList.isEmpty = decide (p = ByteArray.empty) := by
  by_cases h : p = ByteArray.empty
  · subst h; rw [decide_eq_true rfl]; kernel_rfl
  · rw [decide_eq_false h]
    cases h2 : p.toList.isEmpty with
    | false => rfl
    | true => exact absurd (toList_inj ((List.isEmpty_iff.1 h2).trans (by kernel_rfl))) h
theorem isR_kind (w : World) (s : ByteArray) (hs : s.size ≤ maxLen) : Calls Tryz.prog 18 #[.string s] w (RetB (decide (kindT s ≠ 0)) w) := by
  have h := isR_all w s hs
  have e : (parseV s).isSome = decide (kindT s ≠ 0) := by
    unfold kindT
    cases h : parseV s with
    | none => rfl
    | some nd =>
      have h3 := kind_pos (k := nd.1) (n := nd.2.1) (b := nd.2.2.1) (l := nd.2.2.2) h
      simp only [Option.isSome_some]
      rw [decide_eq_true]
      show nd.1 ≠ 0
      omega
  rw [← e]
  exact h
theorem ms_eql (m : Mg) (W : World) : (binOp .eql 25 (.agg m.cells) (.agg m.cells)).run Tryz.prog W = .ok (.bool true) W := by
  have h := msg_eql m m W
  rw [(eqM_iff _ _).2 rfl] at h
  exact h
theorem ms_neq (m : Mg) (W : World) : (binOp .neq 25 (.agg m.cells) (.agg m.cells)).run Tryz.prog W = .ok (.bool false) W := by
  have h := msg_neq m m W
  rw [(eqM_iff _ _).2 rfl] at h
  exact h
end
end Go.Proofs.YtfipdjlalfpbnaaGreatDoor

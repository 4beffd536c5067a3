/-
  Walks and plain words for PairLimits (texts Pa0, Pa1, Hs, Pa2). No condition beyond those that each theorem states.
-/
import Derived.Deep.RegionHeld3
import Derived.Deep.MidRow
import Derived.OrdersHeld
import Derived.Test.YtfipdjlalfpbnaaDoorP09
namespace Go.Proofs.YtfipdjlalfpbnaaDoor
section
open Go.RowKit Go.Deep

theorem WinSet.blk {w : World} {c : Nat} {L : List Nat} (h : WinSet w c L) : ∃ cs, Blk w c 113 cs := by
  obtain ⟨B, ⟨ws, hb, _⟩, _⟩ := h
  exact ⟨_, hb.1⟩
theorem win_zero {w : World} {c : Nat} (h : Blk w c 113 winZero) : WinSet w c [] :=
  WinSet.new ⟨List.replicate 32 0, ⟨by rw [show (winCells (List.replicate 32 0) 0 false).toArray = winZero from rfl]; exact h, by simp, fun x hx => by rw [List.eq_of_mem_replicate hx]; omega, by omega⟩, fun i hi => by
    unfold wbit
    have e : (List.replicate 32 0).getD (i / 64) 0 = 0 := by
      rw [List.getD_eq_getElem?_getD, List.getElem?_replicate]
      split <;> rfl
    rw [e]; simp⟩
def ageV (made now : Int) : Int := if made ≤ now then now - made else 0
theorem timeV_iff (t : Int) : timeV t = true ↔ 0 ≤ t ∧ t ≤ 1125899906842624 := by unfold timeV; simp
set_option maxRecDepth 100000 in
set_option maxHeartbeats 12800000 in
theorem age_any (w : World) (g c : Nat) (s1 s2 : ByteArray) (lo re : Int) (beg : Bool) (made sent : Int) (h : PairIs w g c s1 s2 lo re beg made sent) (now : Int) (h1 : 0 ≤ made) (h2 : made ≤ 1125899906842624) (h3 : 0 ≤ now) (h4 : now ≤ 1125899906842624) : Calls Tryd.prog 36 #[.pointer (some ⟨g, 0, none⟩), .int .i64 now] w fun e w' => e = .returned (.int .i64 (ageV made now)) ∧ w = w' := by
  have H := hide h
  have c0 := H.out.cell 0; have c1 := H.out.cell 1; have c2 := H.out.cell 2; have c3 := H.out.cell 3; have c4 := H.out.cell 4; have c5 := H.out.cell 5; have c6 := H.out.cell 6; have c7 := H.out.cell 7; simp at c0 c1 c2 c3 c4 c5 c6 c7
  clear h
  by_cases hk : made ≤ now
  · have HV := hide (show ageV made now = now - made by unfold ageV; rw [if_pos hk])
    have hz : ¬ (now - made < 0) := by omega
    have hz2 : (0 : Int) ≤ now - made := by omega
    have hwr : IntKind.i64.wrap (now - made) = now - made := by rw [IntKind.wrap_i64]; omega
    go_enter Tryd.func36, Tryd.ntmps36
    go_wp2_with fail
    go_ret
    exact ⟨by rw [HV.out]; first | rfl | exact congrArg (fun x => Ending.returned (Value.int .i64 x)) (show max (now - made) 0 = _ by omega), rfl⟩
  · have HV := hide (show ageV made now = 0 by unfold ageV; rw [if_neg hk])
    have hz : now - made < 0 := by omega
    have hwr : IntKind.i64.wrap (now - made) = now - made := by rw [IntKind.wrap_i64]; omega
    go_enter Tryd.func36, Tryd.ntmps36
    go_wp2_with fail
    go_ret
    exact ⟨by rw [HV.out]; first | rfl | exact congrArg (fun x => Ending.returned (Value.int .i64 x)) (show max (now - made) 0 = _ by omega), rfl⟩
set_option maxRecDepth 100000 in
set_option maxHeartbeats 12800000 in
theorem old_any (w : World) (g c : Nat) (s1 s2 : ByteArray) (lo re : Int) (beg : Bool) (made sent : Int) (h : PairIs w g c s1 s2 lo re beg made sent) (now : Int) (h1 : 0 ≤ made) (h2 : made ≤ 1125899906842624) (h3 : 0 ≤ now) (h4 : now ≤ 1125899906842624) : Calls Tryd.prog 30 #[.pointer (some ⟨g, 0, none⟩), .int .i64 now] w fun e w' => e = .returned (.bool (decide (180000 ≤ ageV made now))) ∧ w = w' := by
  have HAG := hide (age_any w g c s1 s2 lo re beg made sent h now h1 h2 h3 h4)
  clear h h1 h2 h3 h4
  generalize ageV made now = a at *
  go_enter Tryd.func30, Tryd.ntmps30
  go_wp2_with (go_at_call 36; refine HAG.out.mono ?_; rintro e wz ⟨rfl, rfl⟩)
  go_ret
  exact ⟨by simp, rfl⟩
set_option maxRecDepth 100000 in
set_option maxHeartbeats 12800000 in
theorem psent_any (w : World) (g c : Nat) (s1 s2 : ByteArray) (lo re : Int) (beg : Bool) (made sent : Int) (h : PairIs w g c s1 s2 lo re beg made sent) : Calls Tryd.prog 11 #[.pointer (some ⟨g, 0, none⟩)] w fun e w' => e = .returned (.int .u64 sent) ∧ w = w' := by
  have H := hide h
  have c0 := H.out.cell 0; have c1 := H.out.cell 1; have c2 := H.out.cell 2; have c3 := H.out.cell 3; have c4 := H.out.cell 4; have c5 := H.out.cell 5; have c6 := H.out.cell 6; have c7 := H.out.cell 7; simp at c0 c1 c2 c3 c4 c5 c6 c7
  clear h
  go_enter Tryd.func11, Tryd.ntmps11
  go_wp2_with fail
  go_ret
  exact ⟨rfl, rfl⟩
set_option maxRecDepth 100000 in
set_option maxHeartbeats 12800000 in
theorem pskip_any (w : World) (g c : Nat) (s1 s2 : ByteArray) (lo re : Int) (beg : Bool) (made : Int) (sent n : Nat) (h : PairIs w g c s1 s2 lo re beg made sent) : Calls Tryd.prog 8 #[.pointer (some ⟨g, 0, none⟩), .int .u64 n] w fun e w' => e = .returned (.int .i64 (if n < sent then 2 else 0)) ∧ PairIs w' g c s1 s2 lo re beg made (if n < sent then sent else n : Nat) ∧ Only [g] w w' := by
  have H := hide h
  have c0 := H.out.cell 0; have c1 := H.out.cell 1; have c2 := H.out.cell 2; have c3 := H.out.cell 3; have c4 := H.out.cell 4; have c5 := H.out.cell 5; have c6 := H.out.cell 6; have c7 := H.out.cell 7; simp at c0 c1 c2 c3 c4 c5 c6 c7
  have cf := H.out.frozen
  clear h
  by_cases hk : n < sent
  · rw [if_pos hk, if_pos hk]
    have h1 : (n : Int) < sent := by omega
    clear hk
    go_enter Tryd.func8, Tryd.ntmps8
    go_wp2_with fail
    go_ret
    exact ⟨rfl, H.out, Only.refl _ _⟩
  · rw [if_neg hk, if_neg hk]
    have h1 : ¬ (n : Int) < sent := by omega
    clear hk
    go_enter Tryd.func8, Tryd.ntmps8
    go_wp2_with fail
    go_ret
    exact ⟨rfl, Blk.set_ H.out 6 _, (Only.refl _ _).setCell (.inl (by simp)) _⟩
set_option maxRecDepth 100000 in
set_option maxHeartbeats 12800000 in
theorem pfresh_any (w : World) (g c : Nat) (s1 s2 : ByteArray) (lo re : Int) (beg : Bool) (made : Int) (sent : Nat) (h : PairIs w g c s1 s2 lo re beg made sent) (now : Int) (h1 : 0 ≤ made) (h2 : made ≤ 1125899906842624) : Calls Tryd.prog 10 #[.pointer (some ⟨g, 0, none⟩), .int .i64 now] w fun e w' => e = .returned (.bool (timeV now && (!decide (180000 ≤ ageV made now) && decide (sent < 18446744073709543423)))) ∧ w = w' := by
  have HT := hide (fun W => time_any now W)
  have HOL := hide (fun (ht : timeV now = true) => old_any w g c s1 s2 lo re beg made sent h now h1 h2 ((timeV_iff now).1 ht).1 ((timeV_iff now).1 ht).2)
  have H := hide h
  have c0 := H.out.cell 0; have c1 := H.out.cell 1; have c2 := H.out.cell 2; have c3 := H.out.cell 3; have c4 := H.out.cell 4; have c5 := H.out.cell 5; have c6 := H.out.cell 6; have c7 := H.out.cell 7; simp at c0 c1 c2 c3 c4 c5 c6 c7
  have hcm : ((sent : Int) < 18446744073709543423) = (sent < 18446744073709543423) := by rw [show (18446744073709543423 : Int) = ((18446744073709543423 : Nat) : Int) by rfl]; exact propext Int.ofNat_lt
  clear h h1 h2
  cases ht : timeV now with
  | false =>
    rw [ht] at HT
    clear ht hcm
    go_enter Tryd.func10, Tryd.ntmps10
    go_wp2_with (go_at_call 28; refine (HT.out _).mono ?_; rintro e wz ⟨rfl, rfl⟩)
    go_ret
    exact ⟨rfl, rfl⟩
  | true =>
    rw [ht] at HT
    replace HOL := hide (HOL.out ht)
    clear ht
    cases ho : decide (180000 ≤ ageV made now) with
    | true =>
      rw [ho] at HOL
      clear ho hcm
      go_enter Tryd.func10, Tryd.ntmps10
      go_wp2_with (first | (go_at_call 28; refine (HT.out _).mono ?_; rintro e wz ⟨rfl, rfl⟩) | (go_at_call 30; refine HOL.out.mono ?_; rintro e wz ⟨rfl, rfl⟩))
      go_ret
      exact ⟨rfl, rfl⟩
    | false =>
      rw [ho] at HOL
      clear ho
      by_cases hk : sent < 18446744073709543423
      · have h3 : decide ((sent : Int) < 18446744073709543423) = true := by rw [decide_eq_true_iff]; omega
        have HK := hide hk
        clear hk hcm
        go_enter Tryd.func10, Tryd.ntmps10
        go_wp2_with (first | (go_at_call 28; refine (HT.out _).mono ?_; rintro e wz ⟨rfl, rfl⟩) | (go_at_call 30; refine HOL.out.mono ?_; rintro e wz ⟨rfl, rfl⟩))
        go_ret
        exact ⟨by rw [decide_eq_true HK.out]; rfl, rfl⟩
      · have h3 : decide ((sent : Int) < 18446744073709543423) = false := by rw [decide_eq_false_iff_not]; omega
        have HK := hide hk
        clear hk hcm
        go_enter Tryd.func10, Tryd.ntmps10
        go_wp2_with (first | (go_at_call 28; refine (HT.out _).mono ?_; rintro e wz ⟨rfl, rfl⟩) | (go_at_call 30; refine HOL.out.mono ?_; rintro e wz ⟨rfl, rfl⟩))
        go_ret
        exact ⟨by rw [decide_eq_false HK.out]; rfl, rfl⟩
end
section
open Go.RowKit Go.Deep

def zeroG : Mg := ⟨0, 0, 0, 0, noT, noT, noT, noT, noT, noT, noT, noT, noT⟩
/-- The text of a seal of bytes. -/
noncomputable def sealT (n : Nat) (s : ByteArray) (b : List UInt8) : ByteArray := makeV 10 n [] [s, makeV 4 0 b [], ⟨#[48]⟩]
noncomputable def sealM (re n : Nat) (s : ByteArray) (b : List UInt8) : Mg := ⟨4, 0, re, n, noT, noT, noT, noT, noT, noT, sealT n s b, noT, noT⟩
/-- What Seal hands back: the message, the code, the counter behind it. -/
noncomputable def sealV (re : Nat) (made : Int) (n : Nat) (s : ByteArray) (now : Int) (b : List UInt8) : Mg × Int × Nat :=
  if timeV now = false then (zeroG, 2, n) else if 180000 ≤ ageV made now ∨ 18446744073709543423 ≤ n then (zeroG, 10, n) else if 2000 < b.length then (zeroG, 5, n)
  else if rightM (sealM re n s b) = true then (sealM re n s b, 0, n + 1) else (zeroG, 5, n)
def SealPost (g c : Nat) (s1 s2 : ByteArray) (lo re : Nat) (beg : Bool) (made : Int) (r : Mg × Int × Nat) (w : World) (e : Ending) (w' : World) : Prop :=
  e = .returned (.tuple #[.agg r.1.cells, .int .i64 r.2.1]) ∧ PairIs w' g c s1 s2 lo re beg made r.2.2 ∧ Only [g] w w'
theorem seal_fine {re n : Nat} {s : ByteArray} {b : List UInt8} (hr : re < 4294967296) (hn : n < 18446744073709551616) : (sealM re n s b).Fine := by
  have h0 : noT.size ≤ maxLen := Nat.zero_le _
  have h1 : (sealT n s b).size ≤ maxLen := make_size' _ _ _ _ hn
  exact ⟨(by show 0 < _; omega), hr, hn, h0, h0, h0, h0, h0, h0, h1, h0, h0⟩
theorem sealpost_zero {g c : Nat} {s1 s2 : ByteArray} {lo re n : Nat} {beg : Bool} {made k : Int} {r : Mg × Int × Nat} {w w' : World} (hr : r = (zeroG, k, n)) (h : PairIs w' g c s1 s2 lo re beg made n) (ho : Only [] w w') :
    SealPost g c s1 s2 lo re beg made r w (.returned (.tuple #[.agg #[.int .i64 0, .int .u32 0, .int .u32 0, .int .u64 0, .string ⟨#[]⟩, .string ⟨#[]⟩, .string ⟨#[]⟩, .string ⟨#[]⟩, .string ⟨#[]⟩, .string ⟨#[]⟩, .string ⟨#[]⟩, .string ⟨#[]⟩, .string ⟨#[]⟩], .int .i64 k])) w' := by subst hr; exact ⟨rfl, h, ho.mono (by simp)⟩
theorem far13 {w : World} {g R : Nat} {t : TypeId} {cs : Array Value} (h : Blk w g t cs) (hR : g ≠ R) (v0 v1 v2 v3 v4 v5 v6 v7 v8 v9 v10 v11 v12 : Value) : Blk (((((((((((((w.setCell ⟨R, 0, none⟩ v0).setCell ⟨R, 1, none⟩ v1).setCell ⟨R, 2, none⟩ v2).setCell ⟨R, 3, none⟩ v3).setCell ⟨R, 4, none⟩ v4).setCell ⟨R, 5, none⟩ v5).setCell ⟨R, 6, none⟩ v6).setCell ⟨R, 7, none⟩ v7).setCell ⟨R, 8, none⟩ v8).setCell ⟨R, 9, none⟩ v9).setCell ⟨R, 10, none⟩ v10).setCell ⟨R, 11, none⟩ v11).setCell ⟨R, 12, none⟩ v12) g t cs :=
  (((((((((((((h.far (p := ⟨R, 0, none⟩) hR v0).far (p := ⟨R, 1, none⟩) hR v1).far (p := ⟨R, 2, none⟩) hR v2).far (p := ⟨R, 3, none⟩) hR v3).far (p := ⟨R, 4, none⟩) hR v4).far (p := ⟨R, 5, none⟩) hR v5).far (p := ⟨R, 6, none⟩) hR v6).far (p := ⟨R, 7, none⟩) hR v7).far (p := ⟨R, 8, none⟩) hR v8).far (p := ⟨R, 9, none⟩) hR v9).far (p := ⟨R, 10, none⟩) hR v10).far (p := ⟨R, 11, none⟩) hR v11).far (p := ⟨R, 12, none⟩) hR v12)
set_option maxRecDepth 100000 in
set_option maxHeartbeats 12800000 in
theorem Seal_time (w : World) (g c : Nat) (s1 s2 : ByteArray) (lo re : Nat) (beg : Bool) (made : Int) (n : Nat) (h : PairIs w g c s1 s2 lo re beg made n) (now : Int) (h1 : 0 ≤ made) (h2 : made ≤ 1125899906842624) (bv : Value) (b : List UInt8) (ht : timeV now = false) : Calls Tryd.prog 9 #[.pointer (some ⟨g, 0, none⟩), .int .i64 now, bv] w (SealPost g c s1 s2 lo re beg made (sealV re made n s1 now b) w) := by
  have HV := hide (show sealV re made n s1 now b = (zeroG, 2, n) by unfold sealV; rw [if_pos ht])
  have HT := hide (fun W => time_any now W)
  have HOL := hide (fun (ht : timeV now = true) W (hw : PairIs W g c s1 s2 lo re beg made n) => old_any W g c s1 s2 lo re beg made n hw now h1 h2 ((timeV_iff now).1 ht).1 ((timeV_iff now).1 ht).2)
  have HR := hide ((Blk.new w 33 #[.int .i64 0, .int .u32 0, .int .u32 0, .int .u64 0, .string ⟨#[]⟩, .string ⟨#[]⟩, .string ⟨#[]⟩, .string ⟨#[]⟩, .string ⟨#[]⟩, .string ⟨#[]⟩, .string ⟨#[]⟩, .string ⟨#[]⟩, .string ⟨#[]⟩]))
  have HO := hide ((Only.refl [] w).alloc (.cells #[.int .i64 0, .int .u32 0, .int .u32 0, .int .u64 0, .string ⟨#[]⟩, .string ⟨#[]⟩, .string ⟨#[]⟩, .string ⟨#[]⟩, .string ⟨#[]⟩, .string ⟨#[]⟩, .string ⟨#[]⟩, .string ⟨#[]⟩, .string ⟨#[]⟩] 33))
  have H := hide (PairIs.only h HO.out (by simp))
  rw [ht] at HT
  clear ht
  have HGN := hide (show g ≠ w.heap.size by have := Blk.lt h; omega)
  clear h h1 h2
  go_enter Tryd.func9, Tryd.ntmps9
  go_upto_region 1 with fail
  generalize (w.alloc (.cells #[.int .i64 0, .int .u32 0, .int .u32 0, .int .u64 0, .string ⟨#[]⟩, .string ⟨#[]⟩, .string ⟨#[]⟩, .string ⟨#[]⟩, .string ⟨#[]⟩, .string ⟨#[]⟩, .string ⟨#[]⟩, .string ⟨#[]⟩, .string ⟨#[]⟩] 33)) = v0 at *
  have c0 := H.out.cell 0; have c1 := H.out.cell 1; have c2 := H.out.cell 2; have c3 := H.out.cell 3; have c4 := H.out.cell 4; have c5 := H.out.cell 5; have c6 := H.out.cell 6; have c7 := H.out.cell 7; simp at c0 c1 c2 c3 c4 c5 c6 c7
  have cf := H.out.frozen
  have r0 := HR.out.cell 0; have r1 := HR.out.cell 1; have r2 := HR.out.cell 2; have r3 := HR.out.cell 3; have r4 := HR.out.cell 4; have r5 := HR.out.cell 5; have r6 := HR.out.cell 6; have r7 := HR.out.cell 7; have r8 := HR.out.cell 8; have r9 := HR.out.cell 9; have r10 := HR.out.cell 10; have r11 := HR.out.cell 11; have r12 := HR.out.cell 12; simp at r0 r1 r2 r3 r4 r5 r6 r7 r8 r9 r10 r11 r12
  have rf := HR.out.frozen
  go_wp2_with (go_at_call 28; refine (HT.out _).mono ?_; rintro e wz ⟨rfl, rfl⟩)
  refine bodyPost_ret (results_cell_two rfl _ _ w.heap.size 33 _ (0, 0) _ rfl (set13 HR.out (.int .i64 0) (.int .u32 0) (.int .u32 0) (.int .u64 0) (.string ⟨#[]⟩) (.string ⟨#[]⟩) (.string ⟨#[]⟩) (.string ⟨#[]⟩) (.string ⟨#[]⟩) (.string ⟨#[]⟩) (.string ⟨#[]⟩) (.string ⟨#[]⟩) (.string ⟨#[]⟩)) Tryd.underlying33 rfl (by kernel_rfl)) rfl ?_
  exact sealpost_zero HV.out (far13 H.out HGN.out (.int .i64 0) (.int .u32 0) (.int .u32 0) (.int .u64 0) (.string ⟨#[]⟩) (.string ⟨#[]⟩) (.string ⟨#[]⟩) (.string ⟨#[]⟩) (.string ⟨#[]⟩) (.string ⟨#[]⟩) (.string ⟨#[]⟩) (.string ⟨#[]⟩) (.string ⟨#[]⟩)) (only13 HO.out (.inr (Nat.le_refl _)) (.int .i64 0) (.int .u32 0) (.int .u32 0) (.int .u64 0) (.string ⟨#[]⟩) (.string ⟨#[]⟩) (.string ⟨#[]⟩) (.string ⟨#[]⟩) (.string ⟨#[]⟩) (.string ⟨#[]⟩) (.string ⟨#[]⟩) (.string ⟨#[]⟩) (.string ⟨#[]⟩))
set_option maxRecDepth 100000 in
set_option maxHeartbeats 12800000 in
theorem Seal_old (w : World) (g c : Nat) (s1 s2 : ByteArray) (lo re : Nat) (beg : Bool) (made : Int) (n : Nat) (h : PairIs w g c s1 s2 lo re beg made n) (now : Int) (h1 : 0 ≤ made) (h2 : made ≤ 1125899906842624) (bv : Value) (b : List UInt8) (ht : timeV now = true) (ho : 180000 ≤ ageV made now) : Calls Tryd.prog 9 #[.pointer (some ⟨g, 0, none⟩), .int .i64 now, bv] w (SealPost g c s1 s2 lo re beg made (sealV re made n s1 now b) w) := by
  have HV := hide (show sealV re made n s1 now b = (zeroG, 10, n) by unfold sealV; rw [if_neg (by rw [ht]; decide), if_pos (.inl ho)])
  have HT := hide (fun W => time_any now W)
  have HOL := hide (fun (ht : timeV now = true) W (hw : PairIs W g c s1 s2 lo re beg made n) => old_any W g c s1 s2 lo re beg made n hw now h1 h2 ((timeV_iff now).1 ht).1 ((timeV_iff now).1 ht).2)
  have HR := hide ((Blk.new w 33 #[.int .i64 0, .int .u32 0, .int .u32 0, .int .u64 0, .string ⟨#[]⟩, .string ⟨#[]⟩, .string ⟨#[]⟩, .string ⟨#[]⟩, .string ⟨#[]⟩, .string ⟨#[]⟩, .string ⟨#[]⟩, .string ⟨#[]⟩, .string ⟨#[]⟩]))
  have HO := hide ((Only.refl [] w).alloc (.cells #[.int .i64 0, .int .u32 0, .int .u32 0, .int .u64 0, .string ⟨#[]⟩, .string ⟨#[]⟩, .string ⟨#[]⟩, .string ⟨#[]⟩, .string ⟨#[]⟩, .string ⟨#[]⟩, .string ⟨#[]⟩, .string ⟨#[]⟩, .string ⟨#[]⟩] 33))
  have H := hide (PairIs.only h HO.out (by simp))
  rw [ht] at HT
  replace HOL := hide (HOL.out ht)
  rw [decide_eq_true ho] at HOL
  clear ht ho
  have HGN := hide (show g ≠ w.heap.size by have := Blk.lt h; omega)
  clear h h1 h2
  go_enter Tryd.func9, Tryd.ntmps9
  go_upto_region 1 with fail
  generalize (w.alloc (.cells #[.int .i64 0, .int .u32 0, .int .u32 0, .int .u64 0, .string ⟨#[]⟩, .string ⟨#[]⟩, .string ⟨#[]⟩, .string ⟨#[]⟩, .string ⟨#[]⟩, .string ⟨#[]⟩, .string ⟨#[]⟩, .string ⟨#[]⟩, .string ⟨#[]⟩] 33)) = v0 at *
  have c0 := H.out.cell 0; have c1 := H.out.cell 1; have c2 := H.out.cell 2; have c3 := H.out.cell 3; have c4 := H.out.cell 4; have c5 := H.out.cell 5; have c6 := H.out.cell 6; have c7 := H.out.cell 7; simp at c0 c1 c2 c3 c4 c5 c6 c7
  have cf := H.out.frozen
  have r0 := HR.out.cell 0; have r1 := HR.out.cell 1; have r2 := HR.out.cell 2; have r3 := HR.out.cell 3; have r4 := HR.out.cell 4; have r5 := HR.out.cell 5; have r6 := HR.out.cell 6; have r7 := HR.out.cell 7; have r8 := HR.out.cell 8; have r9 := HR.out.cell 9; have r10 := HR.out.cell 10; have r11 := HR.out.cell 11; have r12 := HR.out.cell 12; simp at r0 r1 r2 r3 r4 r5 r6 r7 r8 r9 r10 r11 r12
  have rf := HR.out.frozen
  go_wp2_with (first | (go_at_call 28; refine (HT.out _).mono ?_; rintro e wz ⟨rfl, rfl⟩) | (go_at_call 30; refine (HOL.out _ H.out).mono ?_; rintro e wz ⟨rfl, rfl⟩))
  refine bodyPost_ret (results_cell_two rfl _ _ w.heap.size 33 _ (0, 0) _ rfl (set13 HR.out (.int .i64 0) (.int .u32 0) (.int .u32 0) (.int .u64 0) (.string ⟨#[]⟩) (.string ⟨#[]⟩) (.string ⟨#[]⟩) (.string ⟨#[]⟩) (.string ⟨#[]⟩) (.string ⟨#[]⟩) (.string ⟨#[]⟩) (.string ⟨#[]⟩) (.string ⟨#[]⟩)) Tryd.underlying33 rfl (by kernel_rfl)) rfl ?_
  exact sealpost_zero HV.out (far13 H.out HGN.out (.int .i64 0) (.int .u32 0) (.int .u32 0) (.int .u64 0) (.string ⟨#[]⟩) (.string ⟨#[]⟩) (.string ⟨#[]⟩) (.string ⟨#[]⟩) (.string ⟨#[]⟩) (.string ⟨#[]⟩) (.string ⟨#[]⟩) (.string ⟨#[]⟩) (.string ⟨#[]⟩)) (only13 HO.out (.inr (Nat.le_refl _)) (.int .i64 0) (.int .u32 0) (.int .u32 0) (.int .u64 0) (.string ⟨#[]⟩) (.string ⟨#[]⟩) (.string ⟨#[]⟩) (.string ⟨#[]⟩) (.string ⟨#[]⟩) (.string ⟨#[]⟩) (.string ⟨#[]⟩) (.string ⟨#[]⟩) (.string ⟨#[]⟩))
set_option maxRecDepth 100000 in
set_option maxHeartbeats 12800000 in
theorem Seal_many (w : World) (g c : Nat) (s1 s2 : ByteArray) (lo re : Nat) (beg : Bool) (made : Int) (n : Nat) (h : PairIs w g c s1 s2 lo re beg made n) (now : Int) (h1 : 0 ≤ made) (h2 : made ≤ 1125899906842624) (bv : Value) (b : List UInt8) (ht : timeV now = true) (ho : ¬ 180000 ≤ ageV made now) (hn : 18446744073709543423 ≤ n) : Calls Tryd.prog 9 #[.pointer (some ⟨g, 0, none⟩), .int .i64 now, bv] w (SealPost g c s1 s2 lo re beg made (sealV re made n s1 now b) w) := by
  have HV := hide (show sealV re made n s1 now b = (zeroG, 10, n) by unfold sealV; rw [if_neg (by rw [ht]; decide), if_pos (.inr hn)])
  have HT := hide (fun W => time_any now W)
  have HOL := hide (fun (ht : timeV now = true) W (hw : PairIs W g c s1 s2 lo re beg made n) => old_any W g c s1 s2 lo re beg made n hw now h1 h2 ((timeV_iff now).1 ht).1 ((timeV_iff now).1 ht).2)
  have HR := hide ((Blk.new w 33 #[.int .i64 0, .int .u32 0, .int .u32 0, .int .u64 0, .string ⟨#[]⟩, .string ⟨#[]⟩, .string ⟨#[]⟩, .string ⟨#[]⟩, .string ⟨#[]⟩, .string ⟨#[]⟩, .string ⟨#[]⟩, .string ⟨#[]⟩, .string ⟨#[]⟩]))
  have HO := hide ((Only.refl [] w).alloc (.cells #[.int .i64 0, .int .u32 0, .int .u32 0, .int .u64 0, .string ⟨#[]⟩, .string ⟨#[]⟩, .string ⟨#[]⟩, .string ⟨#[]⟩, .string ⟨#[]⟩, .string ⟨#[]⟩, .string ⟨#[]⟩, .string ⟨#[]⟩, .string ⟨#[]⟩] 33))
  have H := hide (PairIs.only h HO.out (by simp))
  rw [ht] at HT
  replace HOL := hide (HOL.out ht)
  rw [decide_eq_false ho] at HOL
  have h3 : decide ((18446744073709543423 : Int) ≤ n) = true := by rw [decide_eq_true_iff]; omega
  clear ht ho hn
  have HGN := hide (show g ≠ w.heap.size by have := Blk.lt h; omega)
  clear h h1 h2
  go_enter Tryd.func9, Tryd.ntmps9
  go_upto_region 1 with fail
  generalize (w.alloc (.cells #[.int .i64 0, .int .u32 0, .int .u32 0, .int .u64 0, .string ⟨#[]⟩, .string ⟨#[]⟩, .string ⟨#[]⟩, .string ⟨#[]⟩, .string ⟨#[]⟩, .string ⟨#[]⟩, .string ⟨#[]⟩, .string ⟨#[]⟩, .string ⟨#[]⟩] 33)) = v0 at *
  have c0 := H.out.cell 0; have c1 := H.out.cell 1; have c2 := H.out.cell 2; have c3 := H.out.cell 3; have c4 := H.out.cell 4; have c5 := H.out.cell 5; have c6 := H.out.cell 6; have c7 := H.out.cell 7; simp at c0 c1 c2 c3 c4 c5 c6 c7
  have cf := H.out.frozen
  have r0 := HR.out.cell 0; have r1 := HR.out.cell 1; have r2 := HR.out.cell 2; have r3 := HR.out.cell 3; have r4 := HR.out.cell 4; have r5 := HR.out.cell 5; have r6 := HR.out.cell 6; have r7 := HR.out.cell 7; have r8 := HR.out.cell 8; have r9 := HR.out.cell 9; have r10 := HR.out.cell 10; have r11 := HR.out.cell 11; have r12 := HR.out.cell 12; simp at r0 r1 r2 r3 r4 r5 r6 r7 r8 r9 r10 r11 r12
  have rf := HR.out.frozen
  go_wp2_with (first | (go_at_call 28; refine (HT.out _).mono ?_; rintro e wz ⟨rfl, rfl⟩) | (go_at_call 30; refine (HOL.out _ H.out).mono ?_; rintro e wz ⟨rfl, rfl⟩))
  refine bodyPost_ret (results_cell_two rfl _ _ w.heap.size 33 _ (0, 0) _ rfl (set13 HR.out (.int .i64 0) (.int .u32 0) (.int .u32 0) (.int .u64 0) (.string ⟨#[]⟩) (.string ⟨#[]⟩) (.string ⟨#[]⟩) (.string ⟨#[]⟩) (.string ⟨#[]⟩) (.string ⟨#[]⟩) (.string ⟨#[]⟩) (.string ⟨#[]⟩) (.string ⟨#[]⟩)) Tryd.underlying33 rfl (by kernel_rfl)) rfl ?_
  exact sealpost_zero HV.out (far13 H.out HGN.out (.int .i64 0) (.int .u32 0) (.int .u32 0) (.int .u64 0) (.string ⟨#[]⟩) (.string ⟨#[]⟩) (.string ⟨#[]⟩) (.string ⟨#[]⟩) (.string ⟨#[]⟩) (.string ⟨#[]⟩) (.string ⟨#[]⟩) (.string ⟨#[]⟩) (.string ⟨#[]⟩)) (only13 HO.out (.inr (Nat.le_refl _)) (.int .i64 0) (.int .u32 0) (.int .u32 0) (.int .u64 0) (.string ⟨#[]⟩) (.string ⟨#[]⟩) (.string ⟨#[]⟩) (.string ⟨#[]⟩) (.string ⟨#[]⟩) (.string ⟨#[]⟩) (.string ⟨#[]⟩) (.string ⟨#[]⟩) (.string ⟨#[]⟩))
set_option maxRecDepth 100000 in
set_option maxHeartbeats 12800000 in
theorem Seal_long (w : World) (g c : Nat) (s1 s2 : ByteArray) (lo re : Nat) (beg : Bool) (made : Int) (n : Nat) (h : PairIs w g c s1 s2 lo re beg made n) (now : Int) (h1 : 0 ≤ made) (h2 : made ≤ 1125899906842624) (A : Option Addr) (cap : Nat) (b : List UInt8) (ht : timeV now = true) (ho : ¬ 180000 ≤ ageV made now) (hn : ¬ 18446744073709543423 ≤ n) (hb : 2000 < b.length) : Calls Tryd.prog 9 #[.pointer (some ⟨g, 0, none⟩), .int .i64 now, .slice A b.length cap] w (SealPost g c s1 s2 lo re beg made (sealV re made n s1 now b) w) := by
  have HV := hide (show sealV re made n s1 now b = (zeroG, 5, n) by unfold sealV; rw [if_neg (by rw [ht]; decide), if_neg (fun h => h.elim ho hn), if_pos hb])
  have HT := hide (fun W => time_any now W)
  have HOL := hide (fun (ht : timeV now = true) W (hw : PairIs W g c s1 s2 lo re beg made n) => old_any W g c s1 s2 lo re beg made n hw now h1 h2 ((timeV_iff now).1 ht).1 ((timeV_iff now).1 ht).2)
  have HR := hide ((Blk.new w 33 #[.int .i64 0, .int .u32 0, .int .u32 0, .int .u64 0, .string ⟨#[]⟩, .string ⟨#[]⟩, .string ⟨#[]⟩, .string ⟨#[]⟩, .string ⟨#[]⟩, .string ⟨#[]⟩, .string ⟨#[]⟩, .string ⟨#[]⟩, .string ⟨#[]⟩]))
  have HO := hide ((Only.refl [] w).alloc (.cells #[.int .i64 0, .int .u32 0, .int .u32 0, .int .u64 0, .string ⟨#[]⟩, .string ⟨#[]⟩, .string ⟨#[]⟩, .string ⟨#[]⟩, .string ⟨#[]⟩, .string ⟨#[]⟩, .string ⟨#[]⟩, .string ⟨#[]⟩, .string ⟨#[]⟩] 33))
  have H := hide (PairIs.only h HO.out (by simp))
  rw [ht] at HT
  replace HOL := hide (HOL.out ht)
  rw [decide_eq_false ho] at HOL
  have h3 : decide ((18446744073709543423 : Int) ≤ n) = false := by rw [decide_eq_false_iff_not]; omega
  have h4 : (2000 : Int) < b.length := by omega
  clear ht ho hn hb
  generalize b.length = nb at *
  have HGN := hide (show g ≠ w.heap.size by have := Blk.lt h; omega)
  clear h h1 h2
  go_enter Tryd.func9, Tryd.ntmps9
  go_upto_region 1 with fail
  generalize (w.alloc (.cells #[.int .i64 0, .int .u32 0, .int .u32 0, .int .u64 0, .string ⟨#[]⟩, .string ⟨#[]⟩, .string ⟨#[]⟩, .string ⟨#[]⟩, .string ⟨#[]⟩, .string ⟨#[]⟩, .string ⟨#[]⟩, .string ⟨#[]⟩, .string ⟨#[]⟩] 33)) = v0 at *
  have c0 := H.out.cell 0; have c1 := H.out.cell 1; have c2 := H.out.cell 2; have c3 := H.out.cell 3; have c4 := H.out.cell 4; have c5 := H.out.cell 5; have c6 := H.out.cell 6; have c7 := H.out.cell 7; simp at c0 c1 c2 c3 c4 c5 c6 c7
  have cf := H.out.frozen
  have r0 := HR.out.cell 0; have r1 := HR.out.cell 1; have r2 := HR.out.cell 2; have r3 := HR.out.cell 3; have r4 := HR.out.cell 4; have r5 := HR.out.cell 5; have r6 := HR.out.cell 6; have r7 := HR.out.cell 7; have r8 := HR.out.cell 8; have r9 := HR.out.cell 9; have r10 := HR.out.cell 10; have r11 := HR.out.cell 11; have r12 := HR.out.cell 12; simp at r0 r1 r2 r3 r4 r5 r6 r7 r8 r9 r10 r11 r12
  have rf := HR.out.frozen
  go_wp2_with (first | (go_at_call 28; refine (HT.out _).mono ?_; rintro e wz ⟨rfl, rfl⟩) | (go_at_call 30; refine (HOL.out _ H.out).mono ?_; rintro e wz ⟨rfl, rfl⟩))
  refine bodyPost_ret (results_cell_two rfl _ _ w.heap.size 33 _ (0, 0) _ rfl (set13 HR.out (.int .i64 0) (.int .u32 0) (.int .u32 0) (.int .u64 0) (.string ⟨#[]⟩) (.string ⟨#[]⟩) (.string ⟨#[]⟩) (.string ⟨#[]⟩) (.string ⟨#[]⟩) (.string ⟨#[]⟩) (.string ⟨#[]⟩) (.string ⟨#[]⟩) (.string ⟨#[]⟩)) Tryd.underlying33 rfl (by kernel_rfl)) rfl ?_
  exact sealpost_zero HV.out (far13 H.out HGN.out (.int .i64 0) (.int .u32 0) (.int .u32 0) (.int .u64 0) (.string ⟨#[]⟩) (.string ⟨#[]⟩) (.string ⟨#[]⟩) (.string ⟨#[]⟩) (.string ⟨#[]⟩) (.string ⟨#[]⟩) (.string ⟨#[]⟩) (.string ⟨#[]⟩) (.string ⟨#[]⟩)) (only13 HO.out (.inr (Nat.le_refl _)) (.int .i64 0) (.int .u32 0) (.int .u32 0) (.int .u64 0) (.string ⟨#[]⟩) (.string ⟨#[]⟩) (.string ⟨#[]⟩) (.string ⟨#[]⟩) (.string ⟨#[]⟩) (.string ⟨#[]⟩) (.string ⟨#[]⟩) (.string ⟨#[]⟩) (.string ⟨#[]⟩))
end
section
open Go.RowKit Go.Deep

theorem blk_there {w : World} {g : Nat} {t : TypeId} {cs : Array Value} (h : Blk w g t cs) (n : Nat) (hn : n = cs.size) : w.there g 0 n := by
  subst hn
  intro j hj
  rw [Nat.zero_add, h.cell]
  exact ⟨by simp [hj], h.frozen j⟩
theorem blk_stored {w : World} {g : Nat} {t : TypeId} {cs : Array Value} (h : Blk w g t cs) (l : List Value) (hl : l.length = cs.size) : Blk (w.setCells g 0 l) g t l.toArray := h.setCells_whole hl
theorem only_stored {S : List Nat} {a w : World} {g : Nat} (h : Only S a w) (hg : a.heap.size ≤ g) (l : List Value) : Only S a (w.setCells g 0 l) := Only.setCells (.inr hg) 0 l h
end
section
open Go.RowKit Go.Deep

set_option maxRecDepth 100000 in
set_option maxHeartbeats 12800000 in
theorem Seal_do (w : World) (g c : Nat) (s1 s2 : ByteArray) (lo re : Nat) (beg : Bool) (made : Int) (n : Nat) (h : PairIs w g c s1 s2 lo re beg made n) (now : Int) (h1 : 0 ≤ made) (h2 : made ≤ 1125899906842624) (A : Option Addr) (cap : Nat) (b : List UInt8) (ht : timeV now = true) (ho : ¬ 180000 ≤ ageV made now) (hn : ¬ 18446744073709543423 ≤ n) (hb : ¬ 2000 < b.length) (hs1 : s1.size ≤ maxLen) (hrd : Rd w [] (.slice A b.length cap) (ints .u8 (byts b))) (htab : Tab w) (hre : re < 4294967296) : Calls Tryd.prog 9 #[.pointer (some ⟨g, 0, none⟩), .int .i64 now, .slice A b.length cap] w (SealPost g c s1 s2 lo re beg made (sealV re made n s1 now b) w) := by
  have HV := hide (show sealV re made n s1 now b = if rightM (sealM re n s1 b) = true then (sealM re n s1 b, 0, n + 1) else (zeroG, 5, n) by unfold sealV; rw [if_neg (by rw [ht]; decide), if_neg (fun h => h.elim ho hn), if_neg hb])
  have HT := hide (fun W => time_any now W)
  have HOL := hide (fun (ht : timeV now = true) W (hw : PairIs W g c s1 s2 lo re beg made n) => old_any W g c s1 s2 lo re beg made n hw now h1 h2 ((timeV_iff now).1 ht).1 ((timeV_iff now).1 ht).2)
  have HR := hide ((Blk.new w 33 #[.int .i64 0, .int .u32 0, .int .u32 0, .int .u64 0, .string ⟨#[]⟩, .string ⟨#[]⟩, .string ⟨#[]⟩, .string ⟨#[]⟩, .string ⟨#[]⟩, .string ⟨#[]⟩, .string ⟨#[]⟩, .string ⟨#[]⟩, .string ⟨#[]⟩]))
  have HO := hide ((Only.refl [] w).alloc (.cells #[.int .i64 0, .int .u32 0, .int .u32 0, .int .u64 0, .string ⟨#[]⟩, .string ⟨#[]⟩, .string ⟨#[]⟩, .string ⟨#[]⟩, .string ⟨#[]⟩, .string ⟨#[]⟩, .string ⟨#[]⟩, .string ⟨#[]⟩, .string ⟨#[]⟩] 33))
  have H := hide (PairIs.only h HO.out (by simp))
  rw [ht] at HT
  replace HOL := hide (HOL.out ht)
  rw [decide_eq_false ho] at HOL
  have h3 : decide ((18446744073709543423 : Int) ≤ n) = false := by rw [decide_eq_false_iff_not]; omega
  have h4 : ¬ (2000 : Int) < b.length := by omega
  have HNW := hide (show n < 18446744073709551616 by omega)
  have HRE := hide hre
  have HNX := hide (show n + 1 < 18446744073709551616 by omega)
  have HPS := hide (show ∀ p ∈ [s1, makeV 4 0 b [], ⟨#[48]⟩], p.size ≤ maxLen by
    intro p hp
    simp at hp
    rcases hp with rfl | rfl | rfl
    · exact hs1
    · exact make_size' _ _ _ _ (by omega)
    · unfold maxLen; show 1 ≤ _; omega)
  have HTB := hide (htab.only HO.out (by simp))
  have HB := hide (hrd.only HO.out (by simp))
  clear ht ho hn hb hrd htab hs1 hre
  generalize hbl : b.length = nb at *
  clear hbl
  have HGN := hide (show g ≠ w.heap.size by have := Blk.lt h; omega)
  clear h h1 h2
  go_enter Tryd.func9, Tryd.ntmps9
  go_upto_region 1 with fail
  generalize (w.alloc (.cells #[.int .i64 0, .int .u32 0, .int .u32 0, .int .u64 0, .string ⟨#[]⟩, .string ⟨#[]⟩, .string ⟨#[]⟩, .string ⟨#[]⟩, .string ⟨#[]⟩, .string ⟨#[]⟩, .string ⟨#[]⟩, .string ⟨#[]⟩, .string ⟨#[]⟩] 33)) = v0 at *
  have c0 := H.out.cell 0; have c1 := H.out.cell 1; have c2 := H.out.cell 2; have c3 := H.out.cell 3; have c4 := H.out.cell 4; have c5 := H.out.cell 5; have c6 := H.out.cell 6; have c7 := H.out.cell 7; simp at c0 c1 c2 c3 c4 c5 c6 c7
  have cf := H.out.frozen
  have r0 := HR.out.cell 0; have r1 := HR.out.cell 1; have r2 := HR.out.cell 2; have r3 := HR.out.cell 3; have r4 := HR.out.cell 4; have r5 := HR.out.cell 5; have r6 := HR.out.cell 6; have r7 := HR.out.cell 7; have r8 := HR.out.cell 8; have r9 := HR.out.cell 9; have r10 := HR.out.cell 10; have r11 := HR.out.cell 11; have r12 := HR.out.cell 12; simp at r0 r1 r2 r3 r4 r5 r6 r7 r8 r9 r10 r11 r12
  have rf := HR.out.frozen
  go_upto_region 9 with (first | (go_at_call 28; refine (HT.out _).mono ?_; rintro e wz ⟨rfl, rfl⟩) | (go_at_call 30; refine (HOL.out _ H.out).mono ?_; rintro e wz ⟨rfl, rfl⟩))
  go_cut [8] (fun pv w' => ∃ m, pv = .pointer (some ⟨m, 0, none⟩) ∧ v0.heap.size ≤ m ∧ Hid (Blk w' m 33 #[.int .i64 4, .int .u32 0, .int .u32 (re : Nat), .int .u64 (n : Nat), .string ⟨#[]⟩, .string ⟨#[]⟩, .string ⟨#[]⟩, .string ⟨#[]⟩, .string ⟨#[]⟩, .string ⟨#[]⟩, .string (makeV 10 n [] [s1, makeV 4 0 b [], ⟨#[48]⟩]), .string ⟨#[]⟩, .string ⟨#[]⟩]) ∧ Hid (Only [] v0 w'))
  case first =>
    rename_i JJ KK hJJ hKK
    refine wp_region_held_drew (S := fun W => Only [] v0 W) (by kernel_rfl) (by exact (Only.refl [] v0).drew) (fun hHeld => ?_)
    generalize v0.drew = wd9 at *
    refine wpAnyH_take (i := 0) (v := ?_) rfl (by kernel_rfl) (by kernel_rfl) (by kernel_rfl) (fun _ _ _ h => h) (Or.inl ⟨by rfl, ?_⟩) (by assumption) ?_
    rotate_left
    · (intro w hSw; (try dsimp only at hSw); go_simp; try with_reducible rfl)
    try simp only [List.getElem_toArray, List.getElem_cons_succ, List.getElem_cons_zero, Act.put, List.setIfInBounds_toArray, List.set_cons_zero, List.set_cons_succ]
    refine wpAnyH_take (i := 1) (v := ?_) rfl (by kernel_rfl) (by kernel_rfl) (by kernel_rfl) (fun _ _ _ h => h) (Or.inl ⟨by rfl, ?_⟩) (by assumption) ?_
    rotate_left
    · (intro w hSw; (try dsimp only at hSw); go_simp; try with_reducible rfl)
    try simp only [List.getElem_toArray, List.getElem_cons_succ, List.getElem_cons_zero, Act.put, List.setIfInBounds_toArray, List.set_cons_zero, List.set_cons_succ]
    refine wpAnyH_take (i := 2) (v := ?_) rfl (by kernel_rfl) (by kernel_rfl) (by kernel_rfl) (fun _ _ _ h => h) (Or.inl ⟨by rfl, ?_⟩) (by assumption) ?_
    rotate_left
    · (intro w hSw; (try dsimp only at hSw); go_simp; try with_reducible rfl)
    try simp only [List.getElem_toArray, List.getElem_cons_succ, List.getElem_cons_zero, Act.put, List.setIfInBounds_toArray, List.set_cons_zero, List.set_cons_succ]
    refine wpAnyH_take (i := 3) (v := ?_) rfl (by kernel_rfl) (by kernel_rfl) (by kernel_rfl) (fun _ _ _ h => h) (Or.inl ⟨by rfl, ?_⟩) (by assumption) ?_
    rotate_left
    · (intro w hSw; (try dsimp only at hSw); have HMw := PairIs.only H.out hSw (by simp); have c3 := Blk.cell HMw 3; simp at c3; clear HMw; go_simp; try with_reducible rfl)
    try simp only [List.getElem_toArray, List.getElem_cons_succ, List.getElem_cons_zero, Act.put, List.setIfInBounds_toArray, List.set_cons_zero, List.set_cons_succ]
    refine wpAnyH_take (i := 4) (v := ?_) rfl (by kernel_rfl) (by kernel_rfl) (by kernel_rfl) (fun _ _ _ h => h) (Or.inl ⟨by rfl, ?_⟩) (by assumption) ?_
    rotate_left
    · (intro w hSw; (try dsimp only at hSw); go_simp; try with_reducible rfl)
    try simp only [List.getElem_toArray, List.getElem_cons_succ, List.getElem_cons_zero, Act.put, List.setIfInBounds_toArray, List.set_cons_zero, List.set_cons_succ]
    refine wpAnyH_take (i := 5) (v := ?_) rfl (by kernel_rfl) (by kernel_rfl) (by kernel_rfl) (fun _ _ _ h => h) (Or.inl ⟨by rfl, ?_⟩) (by assumption) ?_
    rotate_left
    · (intro w hSw; (try dsimp only at hSw); go_simp; try with_reducible rfl)
    try simp only [List.getElem_toArray, List.getElem_cons_succ, List.getElem_cons_zero, Act.put, List.setIfInBounds_toArray, List.set_cons_zero, List.set_cons_succ]
    refine wpAnyH_take (i := 6) (v := ?_) rfl (by kernel_rfl) (by kernel_rfl) (by kernel_rfl) (fun _ _ _ h => h) (Or.inl ⟨by rfl, ?_⟩) (by assumption) ?_
    rotate_left
    · (intro w hSw; (try dsimp only at hSw); go_simp; try with_reducible rfl)
    try simp only [List.getElem_toArray, List.getElem_cons_succ, List.getElem_cons_zero, Act.put, List.setIfInBounds_toArray, List.set_cons_zero, List.set_cons_succ]
    refine wpAnyH_take (i := 7) (v := ?_) rfl (by kernel_rfl) (by kernel_rfl) (by kernel_rfl) (fun _ _ _ h => h) (Or.inl ⟨by rfl, ?_⟩) (by assumption) ?_
    rotate_left
    · (intro w hSw; (try dsimp only at hSw); have HMw := PairIs.only H.out hSw (by simp); have c6 := Blk.cell HMw 6; simp at c6; clear HMw; go_simp; try with_reducible rfl)
    try simp only [List.getElem_toArray, List.getElem_cons_succ, List.getElem_cons_zero, Act.put, List.setIfInBounds_toArray, List.set_cons_zero, List.set_cons_succ]
    refine wpAnyH_take (i := 8) (v := ?_) rfl (by kernel_rfl) (by kernel_rfl) (by kernel_rfl) (fun _ _ _ h => h) (Or.inl ⟨by rfl, ?_⟩) (by assumption) ?_
    rotate_left
    · (intro w hSw; (try dsimp only at hSw); go_simp; try with_reducible rfl)
    try simp only [List.getElem_toArray, List.getElem_cons_succ, List.getElem_cons_zero, Act.put, List.setIfInBounds_toArray, List.set_cons_zero, List.set_cons_succ]
    refine wpAnyH_take (i := 9) (v := ?_) rfl (by kernel_rfl) (by kernel_rfl) (by kernel_rfl) (fun _ _ _ h => h) (Or.inl ⟨by rfl, ?_⟩) (by assumption) ?_
    rotate_left
    · (intro w hSw; (try dsimp only at hSw); go_simp; try with_reducible rfl)
    try simp only [List.getElem_toArray, List.getElem_cons_succ, List.getElem_cons_zero, Act.put, List.setIfInBounds_toArray, List.set_cons_zero, List.set_cons_succ]
    refine wpAnyH_take (i := 10) (v := ?_) rfl (by kernel_rfl) (by kernel_rfl) (by kernel_rfl) (fun _ _ _ h => h) (Or.inl ⟨by rfl, ?_⟩) (by assumption) ?_
    rotate_left
    · (intro w hSw; (try dsimp only at hSw); go_simp; try with_reducible rfl)
    try simp only [List.getElem_toArray, List.getElem_cons_succ, List.getElem_cons_zero, Act.put, List.setIfInBounds_toArray, List.set_cons_zero, List.set_cons_succ]
    refine wpAnyH_take (i := 11) (v := ?_) rfl (by kernel_rfl) (by kernel_rfl) (by kernel_rfl) (fun _ _ _ h => h) (Or.inl ⟨by rfl, ?_⟩) (by assumption) ?_
    rotate_left
    · (intro w hSw; (try dsimp only at hSw); have HMw := PairIs.only H.out hSw (by simp); have c6 := Blk.cell HMw 6; simp at c6; clear HMw; go_simp; try with_reducible rfl)
    try simp only [List.getElem_toArray, List.getElem_cons_succ, List.getElem_cons_zero, Act.put, List.setIfInBounds_toArray, List.set_cons_zero, List.set_cons_succ]
    refine wpAnyH_take (i := 12) (v := ?_) rfl (by kernel_rfl) (by kernel_rfl) (by kernel_rfl) (fun _ _ _ h => h) (Or.inl ⟨by rfl, ?_⟩) (by assumption) ?_
    rotate_left
    · (intro w hSw; (try dsimp only at hSw); go_simp; try with_reducible rfl)
    try simp only [List.getElem_toArray, List.getElem_cons_succ, List.getElem_cons_zero, Act.put, List.setIfInBounds_toArray, List.set_cons_zero, List.set_cons_succ]
    refine wpAnyH_take (i := 13) (v := ?_) rfl (by kernel_rfl) (by kernel_rfl) (by kernel_rfl) (fun _ _ _ h => h) (Or.inl ⟨by rfl, ?_⟩) (by assumption) ?_
    rotate_left
    · (intro w hSw; (try dsimp only at hSw); go_simp; try with_reducible rfl)
    try simp only [List.getElem_toArray, List.getElem_cons_succ, List.getElem_cons_zero, Act.put, List.setIfInBounds_toArray, List.set_cons_zero, List.set_cons_succ]
    refine wpAnyH_take (i := 14) (v := ?_) rfl (by kernel_rfl) (by kernel_rfl) (by kernel_rfl) (fun _ _ _ h => h) (Or.inl ⟨by rfl, ?_⟩) (by assumption) ?_
    rotate_left
    · (intro w hSw; (try dsimp only at hSw); go_simp; try with_reducible rfl)
    try simp only [List.getElem_toArray, List.getElem_cons_succ, List.getElem_cons_zero, Act.put, List.setIfInBounds_toArray, List.set_cons_zero, List.set_cons_succ]
    refine wpAnyH_take (i := 15) (v := ?_) rfl (by kernel_rfl) (by kernel_rfl) (by kernel_rfl) (fun _ _ _ h => h) (Or.inl ⟨by rfl, ?_⟩) (by assumption) ?_
    rotate_left
    · (intro w hSw; (try dsimp only at hSw); go_simp; try with_reducible rfl)
    try simp only [List.getElem_toArray, List.getElem_cons_succ, List.getElem_cons_zero, Act.put, List.setIfInBounds_toArray, List.set_cons_zero, List.set_cons_succ]
    refine wpAnyH_take (i := 16) (v := ?_) rfl (by kernel_rfl) (by kernel_rfl) (by kernel_rfl) (fun _ _ _ h => h) (Or.inl ⟨by rfl, ?_⟩) (by assumption) ?_
    rotate_left
    · (intro w hSw; (try dsimp only at hSw); have HMw := PairIs.only H.out hSw (by simp); have c0 := Blk.cell HMw 0; simp at c0; clear HMw; go_simp; try with_reducible rfl)
    try simp only [List.getElem_toArray, List.getElem_cons_succ, List.getElem_cons_zero, Act.put, List.setIfInBounds_toArray, List.set_cons_zero, List.set_cons_succ]
    refine wpAnyH_take (i := 17) (v := ?_) rfl (by kernel_rfl) (by kernel_rfl) (by kernel_rfl) (fun _ _ _ h => h) (Or.inl ⟨by rfl, ?_⟩) (by assumption) ?_
    rotate_left
    · (intro w hSw; (try dsimp only at hSw); go_simp; try with_reducible rfl)
    try simp only [List.getElem_toArray, List.getElem_cons_succ, List.getElem_cons_zero, Act.put, List.setIfInBounds_toArray, List.set_cons_zero, List.set_cons_succ]
    refine wpAnyH_ready (rs := [18, 22]) (by kernel_rfl) (by simp) ?_
    refine (AllReadyH.cons rfl (fun K hK => ?_) (AllReadyH.cons rfl (fun K hK => ?_) AllReadyH.nil))
    · go_simp
      (go_at_call 31; refine (Make_any 4 (by decide) 0 (by omega) _ _ b [] (by simp) wd9 (HB.out.only hHeld (by simp)) (Rd.nil _ _) (HTB.out.only hHeld (by simp))).mono ?_; rintro e w18 ⟨rfl, ho⟩)
      refine hK.out _ _ (by exact hHeld.trans ho) (fun hHeld => ?_)
      clear hK K ho
      try simp only [List.getElem_toArray, List.getElem_cons_succ, List.getElem_cons_zero, Act.put, List.setIfInBounds_toArray, List.set_cons_zero, List.set_cons_succ]
      refine wpAnyH_ready (rs := [19, 22]) (by kernel_rfl) (by simp) ?_
      refine (AllReadyH.cons rfl (fun K hK => ?_) (AllReadyH.cons rfl (fun K hK => ?_) AllReadyH.nil))
      · go_simp
        refine hK.out _ _ (by exact hHeld.alloc _) (fun hHeld => ?_)
        clear hK K
        try simp only [List.getElem_toArray, List.getElem_cons_succ, List.getElem_cons_zero, Act.put, List.setIfInBounds_toArray, List.set_cons_zero, List.set_cons_succ]
        have HRD := hide (show Rd (w18.alloc (.cells #[.string s1, .string (makeV 4 0 b []), .string ⟨#[48]⟩] 9)) [] (.slice (some ⟨w18.heap.size, 0, none⟩) 3 3) (strs [s1, makeV 4 0 b [], ⟨#[48]⟩]) from rd_new w18 9 [] (strs [s1, makeV 4 0 b [], ⟨#[48]⟩]) (by simp) (by unfold maxLen; show 3 ≤ _; omega))
        generalize (w18.alloc (.cells #[.string s1, .string (makeV 4 0 b []), .string ⟨#[48]⟩] 9)) = w19 at *
        refine wpAnyH_ready (rs := [20, 22]) (by kernel_rfl) (by simp) ?_
        refine (AllReadyH.cons rfl (fun K hK => ?_) (AllReadyH.cons rfl (fun K hK => ?_) AllReadyH.nil))
        · go_simp
          (go_at_call 31; refine (Make_any 10 (by decide) n HNW.out _ _ [] [s1, makeV 4 0 b [], ⟨#[48]⟩] HPS.out w19 (Rd.nil _ _) HRD.out (HTB.out.only hHeld (by simp))).mono ?_; rintro e w20 ⟨rfl, ho⟩; replace HRD := hide (HRD.out.only ho (by simp)))
          refine hK.out _ _ (by exact hHeld.trans ho) (fun hHeld => ?_)
          clear hK K ho
          try simp only [List.getElem_toArray, List.getElem_cons_succ, List.getElem_cons_zero, Act.put, List.setIfInBounds_toArray, List.set_cons_zero, List.set_cons_succ]
          refine wpAnyH_take (i := 21) (v := ?_) rfl (by kernel_rfl) (by kernel_rfl) (by kernel_rfl) (fun _ _ _ h => h) (Or.inl ⟨by rfl, ?_⟩) (by assumption) ?_
          rotate_left
          · (intro w hSw; (try dsimp only at hSw); go_simp; try with_reducible rfl)
          try simp only [List.getElem_toArray, List.getElem_cons_succ, List.getElem_cons_zero, Act.put, List.setIfInBounds_toArray, List.set_cons_zero, List.set_cons_succ]
          refine wpAnyH_ready (rs := [22]) (by kernel_rfl) (by simp) ?_
          refine (AllReadyH.cons rfl (fun K hK => ?_) AllReadyH.nil)
          go_simp
          have HNS := hide hHeld.size
          refine hK.out _ _ (by exact hHeld.alloc _) (fun hHeld => ?_)
          clear hK K
          try simp only [List.getElem_toArray, List.getElem_cons_succ, List.getElem_cons_zero, Act.put, List.setIfInBounds_toArray, List.set_cons_zero, List.set_cons_succ]
          replace HRD := hide (HRD.out.only ((Only.refl [] w20).alloc (.cells #[.int .i64 0, .int .u32 0, .int .u32 0, .int .u64 0, .string ⟨#[]⟩, .string ⟨#[]⟩, .string ⟨#[]⟩, .string ⟨#[]⟩, .string ⟨#[]⟩, .string ⟨#[]⟩, .string ⟨#[]⟩, .string ⟨#[]⟩, .string ⟨#[]⟩] 33)) (by simp))
          have HNM := hide (Blk.new w20 33 #[.int .i64 0, .int .u32 0, .int .u32 0, .int .u64 0, .string ⟨#[]⟩, .string ⟨#[]⟩, .string ⟨#[]⟩, .string ⟨#[]⟩, .string ⟨#[]⟩, .string ⟨#[]⟩, .string ⟨#[]⟩, .string ⟨#[]⟩, .string ⟨#[]⟩])
          generalize (w20.alloc (.cells #[.int .i64 0, .int .u32 0, .int .u32 0, .int .u64 0, .string ⟨#[]⟩, .string ⟨#[]⟩, .string ⟨#[]⟩, .string ⟨#[]⟩, .string ⟨#[]⟩, .string ⟨#[]⟩, .string ⟨#[]⟩, .string ⟨#[]⟩, .string ⟨#[]⟩] 33)) = w22 at *
          refine wpAnyH_ready (rs := [23]) (by kernel_rfl) (by simp) ?_
          refine (AllReadyH.cons rfl (fun K hK => ?_) AllReadyH.nil)
          rw [if_pos (by rfl)]
          refine wp_store_mid _ _ _ rfl _ _ (List.toArray _) rfl rfl (blk_there HNM.out _ rfl) (by kernel_rfl) (by simp [Value.oneCell']) ?_
          have HST := hide (show Blk (w22.setCells _ 0 [.int .i64 4, .int .u32 0, .int .u32 (re : Nat), .int .u64 (n : Nat), .string ⟨#[]⟩, .string ⟨#[]⟩, .string ⟨#[]⟩, .string ⟨#[]⟩, .string ⟨#[]⟩, .string ⟨#[]⟩, .string (makeV 10 n [] [s1, makeV 4 0 b [], ⟨#[48]⟩]), .string ⟨#[]⟩, .string ⟨#[]⟩]) _ 33 #[.int .i64 4, .int .u32 0, .int .u32 (re : Nat), .int .u64 (n : Nat), .string ⟨#[]⟩, .string ⟨#[]⟩, .string ⟨#[]⟩, .string ⟨#[]⟩, .string ⟨#[]⟩, .string ⟨#[]⟩, .string (makeV 10 n [] [s1, makeV 4 0 b [], ⟨#[48]⟩]), .string ⟨#[]⟩, .string ⟨#[]⟩] from blk_stored HNM.out [.int .i64 4, .int .u32 0, .int .u32 (re : Nat), .int .u64 (n : Nat), .string ⟨#[]⟩, .string ⟨#[]⟩, .string ⟨#[]⟩, .string ⟨#[]⟩, .string ⟨#[]⟩, .string ⟨#[]⟩, .string (makeV 10 n [] [s1, makeV 4 0 b [], ⟨#[48]⟩]), .string ⟨#[]⟩, .string ⟨#[]⟩] rfl)
          refine hK.out _ _ (by exact only_stored hHeld HNS.out [.int .i64 4, .int .u32 0, .int .u32 (re : Nat), .int .u64 (n : Nat), .string ⟨#[]⟩, .string ⟨#[]⟩, .string ⟨#[]⟩, .string ⟨#[]⟩, .string ⟨#[]⟩, .string ⟨#[]⟩, .string (makeV 10 n [] [s1, makeV 4 0 b [], ⟨#[48]⟩]), .string ⟨#[]⟩, .string ⟨#[]⟩]) (fun hHeld => ?_)
          clear hK K
          try simp only [List.getElem_toArray, List.getElem_cons_succ, List.getElem_cons_zero, Act.put, List.setIfInBounds_toArray, List.set_cons_zero, List.set_cons_succ]
          refine wpAnyH_done (by kernel_rfl) ?_ _
          dsimp only [Exit.then]
          refine hKK _ _ ?_
          go_meet
          exact ⟨_, rfl, HNS.out, HST, hide hHeld⟩
        · go_simp
          have HNS := hide hHeld.size
          refine hK.out _ _ (by exact hHeld.alloc _) (fun hHeld => ?_)
          clear hK K
          try simp only [List.getElem_toArray, List.getElem_cons_succ, List.getElem_cons_zero, Act.put, List.setIfInBounds_toArray, List.set_cons_zero, List.set_cons_succ]
          replace HRD := hide (HRD.out.only ((Only.refl [] w19).alloc (.cells #[.int .i64 0, .int .u32 0, .int .u32 0, .int .u64 0, .string ⟨#[]⟩, .string ⟨#[]⟩, .string ⟨#[]⟩, .string ⟨#[]⟩, .string ⟨#[]⟩, .string ⟨#[]⟩, .string ⟨#[]⟩, .string ⟨#[]⟩, .string ⟨#[]⟩] 33)) (by simp))
          have HNM := hide (Blk.new w19 33 #[.int .i64 0, .int .u32 0, .int .u32 0, .int .u64 0, .string ⟨#[]⟩, .string ⟨#[]⟩, .string ⟨#[]⟩, .string ⟨#[]⟩, .string ⟨#[]⟩, .string ⟨#[]⟩, .string ⟨#[]⟩, .string ⟨#[]⟩, .string ⟨#[]⟩])
          generalize (w19.alloc (.cells #[.int .i64 0, .int .u32 0, .int .u32 0, .int .u64 0, .string ⟨#[]⟩, .string ⟨#[]⟩, .string ⟨#[]⟩, .string ⟨#[]⟩, .string ⟨#[]⟩, .string ⟨#[]⟩, .string ⟨#[]⟩, .string ⟨#[]⟩, .string ⟨#[]⟩] 33)) = w22 at *
          refine wpAnyH_ready (rs := [20]) (by kernel_rfl) (by simp) ?_
          refine (AllReadyH.cons rfl (fun K hK => ?_) AllReadyH.nil)
          go_simp
          (go_at_call 31; refine (Make_any 10 (by decide) n HNW.out _ _ [] [s1, makeV 4 0 b [], ⟨#[48]⟩] HPS.out w22 (Rd.nil _ _) HRD.out (HTB.out.only hHeld (by simp))).mono ?_; rintro e w20 ⟨rfl, ho⟩; replace HRD := hide (HRD.out.only ho (by simp)); replace HNM := hide (HNM.out.only ho (by simp)))
          refine hK.out _ _ (by exact hHeld.trans ho) (fun hHeld => ?_)
          clear hK K ho
          try simp only [List.getElem_toArray, List.getElem_cons_succ, List.getElem_cons_zero, Act.put, List.setIfInBounds_toArray, List.set_cons_zero, List.set_cons_succ]
          refine wpAnyH_take (i := 21) (v := ?_) rfl (by kernel_rfl) (by kernel_rfl) (by kernel_rfl) (fun _ _ _ h => h) (Or.inl ⟨by rfl, ?_⟩) (by assumption) ?_
          rotate_left
          · (intro w hSw; (try dsimp only at hSw); go_simp; try with_reducible rfl)
          try simp only [List.getElem_toArray, List.getElem_cons_succ, List.getElem_cons_zero, Act.put, List.setIfInBounds_toArray, List.set_cons_zero, List.set_cons_succ]
          refine wpAnyH_ready (rs := [23]) (by kernel_rfl) (by simp) ?_
          refine (AllReadyH.cons rfl (fun K hK => ?_) AllReadyH.nil)
          rw [if_pos (by rfl)]
          refine wp_store_mid _ _ _ rfl _ _ (List.toArray _) rfl rfl (blk_there HNM.out _ rfl) (by kernel_rfl) (by simp [Value.oneCell']) ?_
          have HST := hide (show Blk (w20.setCells _ 0 [.int .i64 4, .int .u32 0, .int .u32 (re : Nat), .int .u64 (n : Nat), .string ⟨#[]⟩, .string ⟨#[]⟩, .string ⟨#[]⟩, .string ⟨#[]⟩, .string ⟨#[]⟩, .string ⟨#[]⟩, .string (makeV 10 n [] [s1, makeV 4 0 b [], ⟨#[48]⟩]), .string ⟨#[]⟩, .string ⟨#[]⟩]) _ 33 #[.int .i64 4, .int .u32 0, .int .u32 (re : Nat), .int .u64 (n : Nat), .string ⟨#[]⟩, .string ⟨#[]⟩, .string ⟨#[]⟩, .string ⟨#[]⟩, .string ⟨#[]⟩, .string ⟨#[]⟩, .string (makeV 10 n [] [s1, makeV 4 0 b [], ⟨#[48]⟩]), .string ⟨#[]⟩, .string ⟨#[]⟩] from blk_stored HNM.out [.int .i64 4, .int .u32 0, .int .u32 (re : Nat), .int .u64 (n : Nat), .string ⟨#[]⟩, .string ⟨#[]⟩, .string ⟨#[]⟩, .string ⟨#[]⟩, .string ⟨#[]⟩, .string ⟨#[]⟩, .string (makeV 10 n [] [s1, makeV 4 0 b [], ⟨#[48]⟩]), .string ⟨#[]⟩, .string ⟨#[]⟩] rfl)
          refine hK.out _ _ (by exact only_stored hHeld HNS.out [.int .i64 4, .int .u32 0, .int .u32 (re : Nat), .int .u64 (n : Nat), .string ⟨#[]⟩, .string ⟨#[]⟩, .string ⟨#[]⟩, .string ⟨#[]⟩, .string ⟨#[]⟩, .string ⟨#[]⟩, .string (makeV 10 n [] [s1, makeV 4 0 b [], ⟨#[48]⟩]), .string ⟨#[]⟩, .string ⟨#[]⟩]) (fun hHeld => ?_)
          clear hK K
          try simp only [List.getElem_toArray, List.getElem_cons_succ, List.getElem_cons_zero, Act.put, List.setIfInBounds_toArray, List.set_cons_zero, List.set_cons_succ]
          refine wpAnyH_done (by kernel_rfl) ?_ _
          dsimp only [Exit.then]
          refine hKK _ _ ?_
          go_meet
          exact ⟨_, rfl, HNS.out, HST, hide hHeld⟩
      · go_simp
        have HNS := hide hHeld.size
        refine hK.out _ _ (by exact hHeld.alloc _) (fun hHeld => ?_)
        clear hK K
        try simp only [List.getElem_toArray, List.getElem_cons_succ, List.getElem_cons_zero, Act.put, List.setIfInBounds_toArray, List.set_cons_zero, List.set_cons_succ]
        have HNM := hide (Blk.new w18 33 #[.int .i64 0, .int .u32 0, .int .u32 0, .int .u64 0, .string ⟨#[]⟩, .string ⟨#[]⟩, .string ⟨#[]⟩, .string ⟨#[]⟩, .string ⟨#[]⟩, .string ⟨#[]⟩, .string ⟨#[]⟩, .string ⟨#[]⟩, .string ⟨#[]⟩])
        generalize (w18.alloc (.cells #[.int .i64 0, .int .u32 0, .int .u32 0, .int .u64 0, .string ⟨#[]⟩, .string ⟨#[]⟩, .string ⟨#[]⟩, .string ⟨#[]⟩, .string ⟨#[]⟩, .string ⟨#[]⟩, .string ⟨#[]⟩, .string ⟨#[]⟩, .string ⟨#[]⟩] 33)) = w22 at *
        refine wpAnyH_ready (rs := [19]) (by kernel_rfl) (by simp) ?_
        refine (AllReadyH.cons rfl (fun K hK => ?_) AllReadyH.nil)
        go_simp
        refine hK.out _ _ (by exact hHeld.alloc _) (fun hHeld => ?_)
        clear hK K
        try simp only [List.getElem_toArray, List.getElem_cons_succ, List.getElem_cons_zero, Act.put, List.setIfInBounds_toArray, List.set_cons_zero, List.set_cons_succ]
        replace HNM := hide (HNM.out.alloc (.cells #[.string s1, .string (makeV 4 0 b []), .string ⟨#[48]⟩] 9))
        have HRD := hide (show Rd (w22.alloc (.cells #[.string s1, .string (makeV 4 0 b []), .string ⟨#[48]⟩] 9)) [] (.slice (some ⟨w22.heap.size, 0, none⟩) 3 3) (strs [s1, makeV 4 0 b [], ⟨#[48]⟩]) from rd_new w22 9 [] (strs [s1, makeV 4 0 b [], ⟨#[48]⟩]) (by simp) (by unfold maxLen; show 3 ≤ _; omega))
        generalize (w22.alloc (.cells #[.string s1, .string (makeV 4 0 b []), .string ⟨#[48]⟩] 9)) = w19 at *
        refine wpAnyH_ready (rs := [20]) (by kernel_rfl) (by simp) ?_
        refine (AllReadyH.cons rfl (fun K hK => ?_) AllReadyH.nil)
        go_simp
        (go_at_call 31; refine (Make_any 10 (by decide) n HNW.out _ _ [] [s1, makeV 4 0 b [], ⟨#[48]⟩] HPS.out w19 (Rd.nil _ _) HRD.out (HTB.out.only hHeld (by simp))).mono ?_; rintro e w20 ⟨rfl, ho⟩; replace HNM := hide (HNM.out.only ho (by simp)); replace HRD := hide (HRD.out.only ho (by simp)))
        refine hK.out _ _ (by exact hHeld.trans ho) (fun hHeld => ?_)
        clear hK K ho
        try simp only [List.getElem_toArray, List.getElem_cons_succ, List.getElem_cons_zero, Act.put, List.setIfInBounds_toArray, List.set_cons_zero, List.set_cons_succ]
        refine wpAnyH_take (i := 21) (v := ?_) rfl (by kernel_rfl) (by kernel_rfl) (by kernel_rfl) (fun _ _ _ h => h) (Or.inl ⟨by rfl, ?_⟩) (by assumption) ?_
        rotate_left
        · (intro w hSw; (try dsimp only at hSw); go_simp; try with_reducible rfl)
        try simp only [List.getElem_toArray, List.getElem_cons_succ, List.getElem_cons_zero, Act.put, List.setIfInBounds_toArray, List.set_cons_zero, List.set_cons_succ]
        refine wpAnyH_ready (rs := [23]) (by kernel_rfl) (by simp) ?_
        refine (AllReadyH.cons rfl (fun K hK => ?_) AllReadyH.nil)
        rw [if_pos (by rfl)]
        refine wp_store_mid _ _ _ rfl _ _ (List.toArray _) rfl rfl (blk_there HNM.out _ rfl) (by kernel_rfl) (by simp [Value.oneCell']) ?_
        have HST := hide (show Blk (w20.setCells _ 0 [.int .i64 4, .int .u32 0, .int .u32 (re : Nat), .int .u64 (n : Nat), .string ⟨#[]⟩, .string ⟨#[]⟩, .string ⟨#[]⟩, .string ⟨#[]⟩, .string ⟨#[]⟩, .string ⟨#[]⟩, .string (makeV 10 n [] [s1, makeV 4 0 b [], ⟨#[48]⟩]), .string ⟨#[]⟩, .string ⟨#[]⟩]) _ 33 #[.int .i64 4, .int .u32 0, .int .u32 (re : Nat), .int .u64 (n : Nat), .string ⟨#[]⟩, .string ⟨#[]⟩, .string ⟨#[]⟩, .string ⟨#[]⟩, .string ⟨#[]⟩, .string ⟨#[]⟩, .string (makeV 10 n [] [s1, makeV 4 0 b [], ⟨#[48]⟩]), .string ⟨#[]⟩, .string ⟨#[]⟩] from blk_stored HNM.out [.int .i64 4, .int .u32 0, .int .u32 (re : Nat), .int .u64 (n : Nat), .string ⟨#[]⟩, .string ⟨#[]⟩, .string ⟨#[]⟩, .string ⟨#[]⟩, .string ⟨#[]⟩, .string ⟨#[]⟩, .string (makeV 10 n [] [s1, makeV 4 0 b [], ⟨#[48]⟩]), .string ⟨#[]⟩, .string ⟨#[]⟩] rfl)
        refine hK.out _ _ (by exact only_stored hHeld HNS.out [.int .i64 4, .int .u32 0, .int .u32 (re : Nat), .int .u64 (n : Nat), .string ⟨#[]⟩, .string ⟨#[]⟩, .string ⟨#[]⟩, .string ⟨#[]⟩, .string ⟨#[]⟩, .string ⟨#[]⟩, .string (makeV 10 n [] [s1, makeV 4 0 b [], ⟨#[48]⟩]), .string ⟨#[]⟩, .string ⟨#[]⟩]) (fun hHeld => ?_)
        clear hK K
        try simp only [List.getElem_toArray, List.getElem_cons_succ, List.getElem_cons_zero, Act.put, List.setIfInBounds_toArray, List.set_cons_zero, List.set_cons_succ]
        refine wpAnyH_done (by kernel_rfl) ?_ _
        dsimp only [Exit.then]
        refine hKK _ _ ?_
        go_meet
        exact ⟨_, rfl, HNS.out, HST, hide hHeld⟩
    · go_simp
      have HNS := hide hHeld.size
      refine hK.out _ _ (by exact hHeld.alloc _) (fun hHeld => ?_)
      clear hK K
      try simp only [List.getElem_toArray, List.getElem_cons_succ, List.getElem_cons_zero, Act.put, List.setIfInBounds_toArray, List.set_cons_zero, List.set_cons_succ]
      have HNM := hide (Blk.new wd9 33 #[.int .i64 0, .int .u32 0, .int .u32 0, .int .u64 0, .string ⟨#[]⟩, .string ⟨#[]⟩, .string ⟨#[]⟩, .string ⟨#[]⟩, .string ⟨#[]⟩, .string ⟨#[]⟩, .string ⟨#[]⟩, .string ⟨#[]⟩, .string ⟨#[]⟩])
      generalize (wd9.alloc (.cells #[.int .i64 0, .int .u32 0, .int .u32 0, .int .u64 0, .string ⟨#[]⟩, .string ⟨#[]⟩, .string ⟨#[]⟩, .string ⟨#[]⟩, .string ⟨#[]⟩, .string ⟨#[]⟩, .string ⟨#[]⟩, .string ⟨#[]⟩, .string ⟨#[]⟩] 33)) = w22 at *
      refine wpAnyH_ready (rs := [18]) (by kernel_rfl) (by simp) ?_
      refine (AllReadyH.cons rfl (fun K hK => ?_) AllReadyH.nil)
      go_simp
      (go_at_call 31; refine (Make_any 4 (by decide) 0 (by omega) _ _ b [] (by simp) w22 (HB.out.only hHeld (by simp)) (Rd.nil _ _) (HTB.out.only hHeld (by simp))).mono ?_; rintro e w18 ⟨rfl, ho⟩; replace HNM := hide (HNM.out.only ho (by simp)))
      refine hK.out _ _ (by exact hHeld.trans ho) (fun hHeld => ?_)
      clear hK K ho
      try simp only [List.getElem_toArray, List.getElem_cons_succ, List.getElem_cons_zero, Act.put, List.setIfInBounds_toArray, List.set_cons_zero, List.set_cons_succ]
      refine wpAnyH_ready (rs := [19]) (by kernel_rfl) (by simp) ?_
      refine (AllReadyH.cons rfl (fun K hK => ?_) AllReadyH.nil)
      go_simp
      refine hK.out _ _ (by exact hHeld.alloc _) (fun hHeld => ?_)
      clear hK K
      try simp only [List.getElem_toArray, List.getElem_cons_succ, List.getElem_cons_zero, Act.put, List.setIfInBounds_toArray, List.set_cons_zero, List.set_cons_succ]
      replace HNM := hide (HNM.out.alloc (.cells #[.string s1, .string (makeV 4 0 b []), .string ⟨#[48]⟩] 9))
      have HRD := hide (show Rd (w18.alloc (.cells #[.string s1, .string (makeV 4 0 b []), .string ⟨#[48]⟩] 9)) [] (.slice (some ⟨w18.heap.size, 0, none⟩) 3 3) (strs [s1, makeV 4 0 b [], ⟨#[48]⟩]) from rd_new w18 9 [] (strs [s1, makeV 4 0 b [], ⟨#[48]⟩]) (by simp) (by unfold maxLen; show 3 ≤ _; omega))
      generalize (w18.alloc (.cells #[.string s1, .string (makeV 4 0 b []), .string ⟨#[48]⟩] 9)) = w19 at *
      refine wpAnyH_ready (rs := [20]) (by kernel_rfl) (by simp) ?_
      refine (AllReadyH.cons rfl (fun K hK => ?_) AllReadyH.nil)
      go_simp
      (go_at_call 31; refine (Make_any 10 (by decide) n HNW.out _ _ [] [s1, makeV 4 0 b [], ⟨#[48]⟩] HPS.out w19 (Rd.nil _ _) HRD.out (HTB.out.only hHeld (by simp))).mono ?_; rintro e w20 ⟨rfl, ho⟩; replace HNM := hide (HNM.out.only ho (by simp)); replace HRD := hide (HRD.out.only ho (by simp)))
      refine hK.out _ _ (by exact hHeld.trans ho) (fun hHeld => ?_)
      clear hK K ho
      try simp only [List.getElem_toArray, List.getElem_cons_succ, List.getElem_cons_zero, Act.put, List.setIfInBounds_toArray, List.set_cons_zero, List.set_cons_succ]
      refine wpAnyH_take (i := 21) (v := ?_) rfl (by kernel_rfl) (by kernel_rfl) (by kernel_rfl) (fun _ _ _ h => h) (Or.inl ⟨by rfl, ?_⟩) (by assumption) ?_
      rotate_left
      · (intro w hSw; (try dsimp only at hSw); go_simp; try with_reducible rfl)
      try simp only [List.getElem_toArray, List.getElem_cons_succ, List.getElem_cons_zero, Act.put, List.setIfInBounds_toArray, List.set_cons_zero, List.set_cons_succ]
      refine wpAnyH_ready (rs := [23]) (by kernel_rfl) (by simp) ?_
      refine (AllReadyH.cons rfl (fun K hK => ?_) AllReadyH.nil)
      rw [if_pos (by rfl)]
      refine wp_store_mid _ _ _ rfl _ _ (List.toArray _) rfl rfl (blk_there HNM.out _ rfl) (by kernel_rfl) (by simp [Value.oneCell']) ?_
      have HST := hide (show Blk (w20.setCells _ 0 [.int .i64 4, .int .u32 0, .int .u32 (re : Nat), .int .u64 (n : Nat), .string ⟨#[]⟩, .string ⟨#[]⟩, .string ⟨#[]⟩, .string ⟨#[]⟩, .string ⟨#[]⟩, .string ⟨#[]⟩, .string (makeV 10 n [] [s1, makeV 4 0 b [], ⟨#[48]⟩]), .string ⟨#[]⟩, .string ⟨#[]⟩]) _ 33 #[.int .i64 4, .int .u32 0, .int .u32 (re : Nat), .int .u64 (n : Nat), .string ⟨#[]⟩, .string ⟨#[]⟩, .string ⟨#[]⟩, .string ⟨#[]⟩, .string ⟨#[]⟩, .string ⟨#[]⟩, .string (makeV 10 n [] [s1, makeV 4 0 b [], ⟨#[48]⟩]), .string ⟨#[]⟩, .string ⟨#[]⟩] from blk_stored HNM.out [.int .i64 4, .int .u32 0, .int .u32 (re : Nat), .int .u64 (n : Nat), .string ⟨#[]⟩, .string ⟨#[]⟩, .string ⟨#[]⟩, .string ⟨#[]⟩, .string ⟨#[]⟩, .string ⟨#[]⟩, .string (makeV 10 n [] [s1, makeV 4 0 b [], ⟨#[48]⟩]), .string ⟨#[]⟩, .string ⟨#[]⟩] rfl)
      refine hK.out _ _ (by exact only_stored hHeld HNS.out [.int .i64 4, .int .u32 0, .int .u32 (re : Nat), .int .u64 (n : Nat), .string ⟨#[]⟩, .string ⟨#[]⟩, .string ⟨#[]⟩, .string ⟨#[]⟩, .string ⟨#[]⟩, .string ⟨#[]⟩, .string (makeV 10 n [] [s1, makeV 4 0 b [], ⟨#[48]⟩]), .string ⟨#[]⟩, .string ⟨#[]⟩]) (fun hHeld => ?_)
      clear hK K
      try simp only [List.getElem_toArray, List.getElem_cons_succ, List.getElem_cons_zero, Act.put, List.setIfInBounds_toArray, List.set_cons_zero, List.set_cons_succ]
      refine wpAnyH_done (by kernel_rfl) ?_ _
      dsimp only [Exit.then]
      refine hKK _ _ ?_
      go_meet
      exact ⟨_, rfl, HNS.out, HST, hide hHeld⟩
  case rest =>
    obtain ⟨m, rfl, hm, HM, HOM⟩ := hcut
    have HGL := Blk.lt H.out
    replace H := hide (PairIs.only H.out HOM.out (by simp))
    have HR2 := hide (HR.out.only HOM.out (by simp))
    have HO2 := hide (HO.out.trans HOM.out)
    have HGM := hide (show g ≠ m ∧ w.heap.size ≠ m by have := Blk.lt HR.out; constructor <;> omega)
    clear HGL
    have HTM := hide (fun W => Terms_any W (sealM re n s1 b) (seal_fine HRE.out HNW.out))
    unfold TermsPost at HTM
    have HMC := hide (show (sealM re n s1 b).cells = #[.int .i64 4, .int .u32 0, .int .u32 (re : Nat), .int .u64 (n : Nat), .string ⟨#[]⟩, .string ⟨#[]⟩, .string ⟨#[]⟩, .string ⟨#[]⟩, .string ⟨#[]⟩, .string ⟨#[]⟩, .string (makeV 10 n [] [s1, makeV 4 0 b [], ⟨#[48]⟩]), .string ⟨#[]⟩, .string ⟨#[]⟩] from rfl)
    have HTX := hide (show (textsM (sealM re n s1 b)).length = 1 from rfl)
    rw [HMC.out] at HTM
    generalize textsM (sealM re n s1 b) = tl at *
    clear c0 c1 c2 c3 c4 c5 c6 c7 cf r0 r1 r2 r3 r4 r5 r6 r7 r8 r9 r10 r11 r12 rf
    have c0 := H.out.cell 0; have c1 := H.out.cell 1; have c2 := H.out.cell 2; have c3 := H.out.cell 3; have c4 := H.out.cell 4; have c5 := H.out.cell 5; have c6 := H.out.cell 6; have c7 := H.out.cell 7; simp at c0 c1 c2 c3 c4 c5 c6 c7
    have cf := H.out.frozen
    generalize hx10 : makeV 10 n [] [s1, makeV 4 0 b [], ⟨#[48]⟩] = x10 at *
    have m0 := HM.out.cell 0; have m1 := HM.out.cell 1; have m2 := HM.out.cell 2; have m3 := HM.out.cell 3; have m4 := HM.out.cell 4; have m5 := HM.out.cell 5; have m6 := HM.out.cell 6; have m7 := HM.out.cell 7; have m8 := HM.out.cell 8; have m9 := HM.out.cell 9; have m10 := HM.out.cell 10; have m11 := HM.out.cell 11; have m12 := HM.out.cell 12; simp at m0 m1 m2 m3 m4 m5 m6 m7 m8 m9 m10 m11 m12
    cases hr : rightM (sealM re n s1 b) with
    | false =>
      rw [hr] at HTM HV
      simp only [Bool.false_eq_true, if_false] at HTM HV
      clear hr
      go_upto_region 11 with (go_at_call 25; refine (HTM.out _).mono ?_; rintro e wt ⟨ho, rfl⟩; replace H := hide (PairIs.only H.out ho (by simp)); replace HR2 := hide (HR2.out.only ho (by simp)); replace HO2 := hide (HO2.out.trans ho); clear ho)
      have r0 := HR2.out.cell 0; have r1 := HR2.out.cell 1; have r2 := HR2.out.cell 2; have r3 := HR2.out.cell 3; have r4 := HR2.out.cell 4; have r5 := HR2.out.cell 5; have r6 := HR2.out.cell 6; have r7 := HR2.out.cell 7; have r8 := HR2.out.cell 8; have r9 := HR2.out.cell 9; have r10 := HR2.out.cell 10; have r11 := HR2.out.cell 11; have r12 := HR2.out.cell 12; simp at r0 r1 r2 r3 r4 r5 r6 r7 r8 r9 r10 r11 r12; have rf := HR2.out.frozen
      go_wp2_with fail
      refine bodyPost_ret (results_cell_two rfl _ _ w.heap.size 33 _ (0, 0) _ rfl (set13 HR2.out (.int .i64 0) (.int .u32 0) (.int .u32 0) (.int .u64 0) (.string ⟨#[]⟩) (.string ⟨#[]⟩) (.string ⟨#[]⟩) (.string ⟨#[]⟩) (.string ⟨#[]⟩) (.string ⟨#[]⟩) (.string ⟨#[]⟩) (.string ⟨#[]⟩) (.string ⟨#[]⟩)) Tryd.underlying33 rfl (by kernel_rfl)) rfl ?_
      exact sealpost_zero HV.out (far13 H.out HGN.out (.int .i64 0) (.int .u32 0) (.int .u32 0) (.int .u64 0) (.string ⟨#[]⟩) (.string ⟨#[]⟩) (.string ⟨#[]⟩) (.string ⟨#[]⟩) (.string ⟨#[]⟩) (.string ⟨#[]⟩) (.string ⟨#[]⟩) (.string ⟨#[]⟩) (.string ⟨#[]⟩)) (only13 HO2.out (.inr (Nat.le_refl _)) (.int .i64 0) (.int .u32 0) (.int .u32 0) (.int .u64 0) (.string ⟨#[]⟩) (.string ⟨#[]⟩) (.string ⟨#[]⟩) (.string ⟨#[]⟩) (.string ⟨#[]⟩) (.string ⟨#[]⟩) (.string ⟨#[]⟩) (.string ⟨#[]⟩) (.string ⟨#[]⟩))
    | true =>
      rw [hr] at HTM HV
      simp only [if_true] at HTM HV
      have hwr : IntKind.u64.wrap ((n : Int) + 1) = (n : Int) + 1 := by have := HNX.out; rw [IntKind.wrap_u64]; omega
      clear hr
      go_upto_region 12 with (go_at_call 25; refine (HTM.out _).mono ?_; rintro e wt ⟨ho, v, rfl, hrd⟩; obtain ⟨A2, cp, hv, hcc, hmm⟩ := hrd.form; replace hv : v = .slice A2 1 cp := (by rw [hv, show (strc tl).length = tl.length by simp [strc], HTX.out]); subst hv; replace H := hide (PairIs.only H.out ho (by simp)); replace HR2 := hide (HR2.out.only ho (by simp)); replace HM := hide (HM.out.only ho (by simp)); replace HO2 := hide (HO2.out.trans ho); clear ho hrd hcc hmm)
      clear c0 c1 c2 c3 c4 c5 c6 c7 cf m0 m1 m2 m3 m4 m5 m6 m7 m8 m9 m10 m11 m12
      have c0 := H.out.cell 0; have c1 := H.out.cell 1; have c2 := H.out.cell 2; have c3 := H.out.cell 3; have c4 := H.out.cell 4; have c5 := H.out.cell 5; have c6 := H.out.cell 6; have c7 := H.out.cell 7; simp at c0 c1 c2 c3 c4 c5 c6 c7
      have cf := H.out.frozen
      have g0 := hide (HR2.out.far (p := ⟨g, 6, none⟩) (Ne.symm HGN.out) (.int .u64 ((n : Int) + 1)))
      have g1 := hide (show PairIs (wt.setCell ⟨g, 6, none⟩ (.int .u64 ((n : Int) + 1))) g c s1 s2 lo re beg made ((n : Int) + 1) from Blk.set_ H.out 6 _)
      have g2 := hide (HM.out.far (p := ⟨g, 6, none⟩) (Ne.symm HGM.out.1) (.int .u64 ((n : Int) + 1)))
      have r0 := g0.out.cell 0; have r1 := g0.out.cell 1; have r2 := g0.out.cell 2; have r3 := g0.out.cell 3; have r4 := g0.out.cell 4; have r5 := g0.out.cell 5; have r6 := g0.out.cell 6; have r7 := g0.out.cell 7; have r8 := g0.out.cell 8; have r9 := g0.out.cell 9; have r10 := g0.out.cell 10; have r11 := g0.out.cell 11; have r12 := g0.out.cell 12; simp at r0 r1 r2 r3 r4 r5 r6 r7 r8 r9 r10 r11 r12; have rf := g0.out.frozen
      have m0 := g2.out.cell 0; have m1 := g2.out.cell 1; have m2 := g2.out.cell 2; have m3 := g2.out.cell 3; have m4 := g2.out.cell 4; have m5 := g2.out.cell 5; have m6 := g2.out.cell 6; have m7 := g2.out.cell 7; have m8 := g2.out.cell 8; have m9 := g2.out.cell 9; have m10 := g2.out.cell 10; have m11 := g2.out.cell 11; have m12 := g2.out.cell 12; simp at m0 m1 m2 m3 m4 m5 m6 m7 m8 m9 m10 m11 m12
      go_wp2_with fail
      refine bodyPost_ret (results_cell_two rfl _ _ w.heap.size 33 _ (0, 0) _ rfl (set13 g0.out (.int .i64 4) (.int .u32 0) (.int .u32 (re : Nat)) (.int .u64 (n : Nat)) (.string ⟨#[]⟩) (.string ⟨#[]⟩) (.string ⟨#[]⟩) (.string ⟨#[]⟩) (.string ⟨#[]⟩) (.string ⟨#[]⟩) (.string x10) (.string ⟨#[]⟩) (.string ⟨#[]⟩)) Tryd.underlying33 rfl (by kernel_rfl)) rfl ?_
      rw [HV.out]
      refine ⟨by rw [HMC.out]; rfl, ?_, ?_⟩
      · show PairIs _ g c s1 s2 lo re beg made ((n : Int) + 1)
        exact far13 g1.out HGN.out (.int .i64 4) (.int .u32 0) (.int .u32 (re : Nat)) (.int .u64 (n : Nat)) (.string ⟨#[]⟩) (.string ⟨#[]⟩) (.string ⟨#[]⟩) (.string ⟨#[]⟩) (.string ⟨#[]⟩) (.string ⟨#[]⟩) (.string x10) (.string ⟨#[]⟩) (.string ⟨#[]⟩)
      · exact (only13 ((HO2.out.mono (S' := [g]) (by simp)).setCell (.inl (by simp)) _) (.inr (Nat.le_refl _)) (.int .i64 4) (.int .u32 0) (.int .u32 (re : Nat)) (.int .u64 (n : Nat)) (.string ⟨#[]⟩) (.string ⟨#[]⟩) (.string ⟨#[]⟩) (.string ⟨#[]⟩) (.string ⟨#[]⟩) (.string ⟨#[]⟩) (.string x10) (.string ⟨#[]⟩) (.string ⟨#[]⟩))
theorem Seal_any (w : World) (g c : Nat) (s1 s2 : ByteArray) (lo re : Nat) (beg : Bool) (made : Int) (n : Nat) (h : PairIs w g c s1 s2 lo re beg made n) (now : Int) (h1 : 0 ≤ made) (h2 : made ≤ 1125899906842624) (A : Option Addr) (cap : Nat) (b : List UInt8) (hs1 : s1.size ≤ maxLen) (hrd : Rd w [] (.slice A b.length cap) (ints .u8 (byts b))) (htab : Tab w) (hre : re < 4294967296) : Calls Tryd.prog 9 #[.pointer (some ⟨g, 0, none⟩), .int .i64 now, .slice A b.length cap] w (SealPost g c s1 s2 lo re beg made (sealV re made n s1 now b) w) := by
  cases ht : timeV now with
  | false => exact Seal_time w g c s1 s2 lo re beg made n h now h1 h2 _ b ht
  | true =>
    by_cases ho : 180000 ≤ ageV made now
    · exact Seal_old w g c s1 s2 lo re beg made n h now h1 h2 _ b ht ho
    · by_cases hn : 18446744073709543423 ≤ n
      · exact Seal_many w g c s1 s2 lo re beg made n h now h1 h2 _ b ht ho hn
      · by_cases hb : 2000 < b.length
        · exact Seal_long w g c s1 s2 lo re beg made n h now h1 h2 A cap b ht ho hn hb
        · exact Seal_do w g c s1 s2 lo re beg made n h now h1 h2 A cap b ht ho hn hb hs1 hrd htab hre
end
end Go.Proofs.YtfipdjlalfpbnaaDoor

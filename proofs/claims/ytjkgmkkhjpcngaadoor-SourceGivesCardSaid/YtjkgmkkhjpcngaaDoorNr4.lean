/-
  The reference's ReadHex, by walking. Condition: the text has at most 1,000,000 bytes.
-/
import Derived.Test.YtjkgmkkhjpcngaaDoorNr3
namespace Go.Proofs.YtjkgmkkhjpcngaaDoor
open Go.RowKit Go.Deep

theorem valV_lt (c : UInt8) : valV c ≤ 16 := by unfold valV; have := nib_lt c; split <;> omega
theorem valV_hex {c : UInt8} (h : hexB c = true) : valV c = nib c := by unfold valV; rw [if_pos h]
theorem valV_bad {c : UInt8} (h : hexB c = false) : valV c = 16 := by unfold valV; rw [if_neg (by rw [h]; exact Bool.false_ne_true)]

set_option maxRecDepth 100000 in
set_option maxHeartbeats 6400000 in
theorem readhex_ref (w : World) (s : ByteArray) (hs : s.size ≤ 1000000) :
    Calls Tryd.prog 13 #[.string s] w (BytsPost (hexR s.data.toList) w) := by
  obtain ⟨i0, hi, hz0, hz1, hz2⟩ := info_parts (show (Tryd.prog.info? 5).map (fun i => (i.zero, i.size, i.bytes)) = some (some (.int .u8 0), 1, 1) by kernel_rfl)
  go_enter Tryd.func13, Tryd.ntmps13
  go_wp2_with fail
  go_loop [4] (fun i => ∃ k : Nat, k ≤ s.size ∧ i = .int .i64 k ∧ Hid (Hexs s k)) (fun i => s.size - (intOf i).toNat)
  case atStart => exact ⟨0, Nat.zero_le _, rfl, hide (fun i _ h => by omega)⟩
  case round =>
    obtain ⟨k, hk, rfl, hdg⟩ := hrel
    by_cases hlt : k < s.size
    · have hltI : (k : Int) < s.size := by omega
      cases hd : hexB s[k] with
      | true =>
        have HS := hide (hexs_succ hdg.out hlt hd)
        have hx := nib_lt s[k]
        have hv := valV_hex hd
        clear hd
        generalize nib s[k] = x at *
        have hne : ((x : Int) == 16) = false := by rw [beq_eq_false_iff_ne]; omega
        have hne2 : (x == 16) = false := by rw [beq_eq_false_iff_ne]; omega
        go_wp2_with (go_at_call 38; refine (value_any _ _).mono ?_; rintro e w' ⟨rfl, rfl⟩; rw [hv])
        go_round
        case rel => exact ⟨k + 1, by omega, by go_num, HS⟩
        case measure => simp [intOf]; omega
      | false =>
        have HR := hide (hexR_bad s k hlt hd)
        have hv := valV_bad hd
        clear hd
        go_wp2_with (go_at_call 38; refine (value_any _ _).mono ?_; rintro e w' ⟨rfl, rfl⟩; rw [hv])
        go_ret2
        exact byts_nil HR.out (Only.refl _ _)
    · obtain rfl : k = s.size := by omega
      have hge0 : ¬ (s.size : Int) < s.size := by omega
      have HX := hide hdg.out
      by_cases hodd : s.size % 2 = 1
      · have HR := hide (hexR_odd hdg.out hodd)
        have ho2 : (((s.size : Int) % 2) == 1) = true := by rw [beq_iff_eq]; omega
        have ho3 : (((s.size : Int).tmod 2) == 1) = true := by rw [Int.tmod_eq_emod_of_nonneg (by omega)]; exact ho2
        clear hodd
        go_wp2_with fail
        go_ret2
        exact byts_nil HR.out (Only.refl _ _)
      · have HR := hide (hexR_even hdg.out (by omega))
        have ho2 : (((s.size : Int) % 2) == 1) = false := by rw [beq_eq_false_iff_ne]; omega
        have ho3 : (((s.size : Int).tmod 2) == 1) = false := by rw [Int.tmod_eq_emod_of_nonneg (by omega)]; exact ho2
        have HEV := hide (show s.size % 2 = 0 by omega)
        have HOW := hide (World.ownsRow_lit (base := w.heap.size) w #[] 0 (Nat.le_refl _) (by unfold maxLen; omega) (e := 5) (size := 1) (by simp))
        have HO := hide ((Only.refl [] w).alloc (.cells #[] 5))
        clear hodd
        go_wp2_with fail
        obtain ⟨w0, hw0⟩ : ∃ w0, w0 = w.alloc (.cells #[] 5) := ⟨_, rfl⟩
        rw [← hw0] at HOW HO ⊢
        clear hw0 ho2 ho3
        go_loopw [5, 6] (fun v i wr => ∃ j k : Nat, k ≤ s.size ∧ Hid (k = 2 * j) ∧ i = .int .i64 k ∧ Hid (wr.ownsRow w.heap.size 5 1 v j (ints .u8 (byts (hexP (s.data.toList.take k))))) ∧ Hid (Only [] w wr)) (fun _ i _ => s.size - (intOf i).toNat)
        case atStart => exact ⟨0, 0, Nat.zero_le _, hide rfl, rfl, HOW, HO⟩
        case round =>
          obtain ⟨j, k, hk, hkj, rfl, how, ho⟩ := hrel
          by_cases hlt : k < s.size
          · have hlt1 : k + 1 < s.size := by have := hkj.out; have := HEV.out; omega
            have hltI : (k : Int) < s.size := by omega
            have hlt1I : (k : Int) + 1 < s.size := by omega
            have hw1 : IntKind.i64.wrap ((k : Int) + 1) = (k : Int) + 1 := IntWalk.i64_in _ (by omega)
            have h0 : (0 : Int) ≤ (k : Int) + 1 := by omega
            have ht : ((k : Int) + 1).toNat = k + 1 := by omega
            have hx := valV_hex (HX.out k hlt hlt)
            have hy := valV_hex (HX.out (k + 1) hlt1 hlt1)
            obtain ⟨x, hxx⟩ : ∃ x, x = nib s[k] := ⟨_, rfl⟩
            obtain ⟨y, hyy⟩ : ∃ y, y = nib s[k + 1] := ⟨_, rfl⟩
            obtain ⟨z, hzz⟩ : ∃ z, z = 16 * x + y := ⟨_, rfl⟩
            have hx16 : x < 16 := by rw [hxx]; exact nib_lt _
            have hy16 : y < 16 := by rw [hyy]; exact nib_lt _
            have HZ := hide (show z = 16 * nib s[k] + nib s[k + 1] by rw [hzz, hxx, hyy])
            rw [← hxx] at hx
            rw [← hyy] at hy
            have hwm : IntKind.u8.wrap (16 * (x : Int)) = 16 * (x : Int) := by rw [IntKind.wrap_u8]; omega
            have hwu : IntKind.u8.wrap (16 * (x : Int) + (y : Int)) = (z : Int) := by rw [IntKind.wrap_u8]; omega
            obtain ⟨Av, cv, rfl, hjc, hcm⟩ := own_form how.out
            have hj : j < 1000000 := by have := hkj.out; omega
            clear hxx hyy hzz
            have HOW2 := hide (World.ownsRow.alloc (own_only how.out ((Only.refl [] wr).drew) (by simp)) (.cells #[.int .u8 (z : Int)] 5))
            have HO2 := hide (ho.out.drew.alloc (.cells #[.int .u8 (z : Int)] 5))
            have HRN := hide (reads_one wr.drew 5 (.int .u8 (z : Int)) (wr.heap.size + 1) (Nat.lt_succ_self _))
            have HSZ := hide ho.out.size
            have HSZ0 := hide HO.out.size
            go_upto_region 12 with (fail)
            go_region_held3 (fun _ => True) (exact trivial)
              (first
              | (go_at_call 38; refine (value_any _ _).mono ?_; rintro e w' ⟨rfl, rfl⟩; first | rw [hx] | rw [hy])
              | (refine step_append_any _ rfl (.tmp 29) (.tmp 41) 27 rfl w.heap.size 5 i0 (.int .u8 0) 1 1 Tryd.underlying27 hi hz0 hz1 hz2 rfl (by decide) _ j _ rfl HOW2.out _ _ 1 1 [.int .u8 (z : Int)] rfl HRN.out (by simp [Value.oneCell']) (by unfold maxLen; omega) (by omega) (by have := HSZ.out; simp; omega) ?_; intro v1 w3 hown1 hg1 _; have HOW3 := hide (one_hex hown1 hkj.out hlt1 HZ.out); have HO3 := hide (HO2.out.grown hg1 (fun j hj => .inr (own_block_ge HOW2.out hj))); clear hown1 hg1))
            all_goals
              go_wp2_with fail
              go_roundw
              case rel => exact ⟨j + 1, k + 2, by omega, hide (by have := hkj.out; omega), by go_num, HOW3, HO3⟩
              case measure => simp [intOf]; omega
          · obtain rfl : k = s.size := by omega
            have hge : ¬ (s.size : Int) < s.size := by omega
            have HRD := hide (rd_whole how.out)
            go_wp2_with fail
            go_ret2
            exact byts_some HR.out ho.out HRD.out
end Go.Proofs.YtjkgmkkhjpcngaaDoor

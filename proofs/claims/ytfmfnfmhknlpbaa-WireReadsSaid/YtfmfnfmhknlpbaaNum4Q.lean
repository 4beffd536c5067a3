/-
  num.ReadHex: the contract, by walking. Condition: the text has at most 1,000,000 bytes.
-/
import Derived.Test.YtfmfnfmhknlpbaaNum3Q
namespace Go.Proofs.Ytfmfnfmhknlpbaa
open Go.RowKit Go.Deep

theorem ofInt_i64 (a : Nat) (ha : a < 9223372036854775808) : (BitVec.ofInt 64 (a : Int)).toNat = a := by
  rw [BitVec.ofInt_natCast, BitVec.toNat_ofNat]; exact Nat.mod_eq_of_lt (by omega)
theorem i64_or_nat (a b : Nat) (ha : a < 9223372036854775808) (hb : b < 9223372036854775808) : bits .or .i64 (a : Int) (b : Int) = ((a ||| b : Nat) : Int) := by
  have hx : a ||| b < 2 ^ 63 := Nat.or_lt_two_pow (by omega) (by omega)
  show IntKind.i64.wrap ((BitVec.ofInt 64 (a : Int) ||| BitVec.ofInt 64 (b : Int)).toNat : Int) = _
  rw [BitVec.toNat_or, ofInt_i64 a ha, ofInt_i64 b hb, IntKind.wrap_i64]
  omega
theorem or_nib (x y : Nat) (hx : x < 16) (hy : y < 16) : bits .or .i64 ((x : Int) * 16) (y : Int) = ((16 * x + y : Nat) : Int) := by
  have h := i64_or_nat (16 * x) y (by omega) (by omega)
  have e : 16 * x ||| y = 16 * x + y := (Nat.two_pow_add_eq_or_of_lt (i := 4) hy x).symm
  rw [e] at h
  rw [← h, show ((16 * x : Nat) : Int) = (x : Int) * 16 by omega]
theorem ints_snoc_list (k : IntKind) (l m : List Int) : ints k l ++ ints k m = ints k (l ++ m) := by simp [ints]
theorem byts_some {r : List UInt8 × Nat} {l : List UInt8} {c : Nat} {v : Value} {w w' : World} (h : r = (l, c)) (ho : Only [] w w') (hr : ∀ N : List Nat, (∀ x ∈ N, x < w.heap.size) → Rd w' N v (ints .u8 (byts l))) : BytsPost r w (.returned (.tuple #[v, .int .i64 c])) w' := by
  subst h; exact ⟨_, rfl, ho, hr⟩
theorem rd_whole {w' : World} {B e j : Nat} {v : Value} {s : ByteArray} (h : w'.ownsRow B e 1 v j (ints .u8 (byts (hexP (s.data.toList.take s.size))))) : ∀ N : List Nat, (∀ x ∈ N, x < B) → Rd w' N v (ints .u8 (byts (hexP s.data.toList))) := by
  intro N hN
  have h1 := (Rd.of_own h hN).1
  rwa [show s.data.toList.take s.size = s.data.toList from List.take_of_length_le (Nat.le_of_eq rfl)] at h1
theorem one_hex {v : Value} {w' : World} {B e j k : Nat} {s : ByteArray} {z : Nat} (h : w'.ownsRow B e 1 v (j + 1) (ints .u8 (byts (hexP (s.data.toList.take k))) ++ [.int .u8 (z : Int)])) (hk : k = 2 * j) (hlt : k + 1 < s.size)
    (hz : z = 16 * nib s[k] + nib s[k + 1]) : w'.ownsRow B e 1 v (j + 1) (ints .u8 (byts (hexP (s.data.toList.take (k + 2))))) := by
  subst hk
  have e := hexP_take s j (by omega)
  rw [show 2 * (j + 1) = 2 * j + 2 by omega] at e
  rw [e, byts_append, ← ints_snoc_list]
  have hb : byts [UInt8.ofNat (16 * nib s[2 * j] + nib s[2 * j + 1])] = [(z : Int)] := by
    unfold byts
    simp only [List.map_cons, List.map_nil, UInt8.toNat_ofNat']
    have h1 := nib_lt s[2 * j]
    have h2 := nib_lt s[2 * j + 1]
    rw [← hz, Nat.mod_eq_of_lt (by omega)]
  rw [hb]
  exact h

set_option maxRecDepth 100000 in
set_option maxHeartbeats 6400000 in
theorem num_readhex (w : World) (s : ByteArray) (hs : s.size ≤ 1000000) :
    Calls Try.prog 96 #[.string s] w (BytsPost (hexR s.data.toList) w) := by
  obtain ⟨i0, hi, hz0, hz1, hz2⟩ := info_parts (show (Try.prog.info? 5).map (fun i => (i.zero, i.size, i.bytes)) = some (some (.int .u8 0), 1, 1) by kernel_rfl)
  go_enter Try.func96, Try.ntmps96
  go_wp2_with fail
  go_loopg [5] s.size (fun gk r wr => ∃ k : Nat, k ≤ s.size ∧ gk + k = s.size ∧ Hid (Hexs s k) ∧ wr = w.iter s k)
  case atStart => exact ⟨0, Nat.zero_le _, by omega, hide (fun i _ h => by omega), rfl⟩
  case round =>
    obtain ⟨k, hk, hgk, hdg, rfl⟩ := hrel
    have HG := hide hgk
    clear hgk
    by_cases hlt : k < s.size
    · have hnx : ∀ ty, (Instr.next (.pointer (some ⟨w.heap.size, 0, none⟩)) true ty).run Try.prog (w.iter s k) = _ := fun ty => run_next_any w s k ty hlt
      cases hd : hexB s[k] with
      | true =>
        rw [decode_hex s k hlt hd] at hnx
        have hge : ¬ signV (s[k].toNat : Int) < 0 := by have := of_decide_eq_true hd; omega
        have HS := hide (hexs_succ hdg.out hlt hd)
        clear hd
        go_wp2_with (go_at_call 110; refine (sign_any _ _).mono ?_; rintro e w' ⟨rfl, rfl⟩)
        go_roundg (gk - 1)
        case rel => exact ⟨k + 1, by omega, by have := HG.out; omega, HS, rfl⟩
        case measure => have := HG.out; omega
      | false =>
        have hb := decode_nohex s k hlt hd
        have HR := hide (hexR_bad s k hlt hd)
        have hr := decode_le s k
        clear hd
        generalize Utf8.decode s k = d at *
        obtain ⟨r, n⟩ := d
        simp only at hb hr hnx
        go_wp2_with (go_at_call 110; refine (sign_any _ _).mono ?_; rintro e w' ⟨rfl, rfl⟩)
        go_ret2
        exact byts_nil HR.out (only_iter w s _)
    · obtain rfl : k = s.size := by omega
      have hnx : ∀ ty, (Instr.next (.pointer (some ⟨w.heap.size, 0, none⟩)) true ty).run Try.prog (w.iter s s.size) = _ := fun ty => run_next_end w s s.size ty hlt
      have HX := hide hdg.out
      by_cases hodd : s.size % 2 = 1
      · have HR := hide (hexR_odd hdg.out hodd)
        have ho2 : (((s.size : Int) % 2) != 0) = true := by rw [bne_iff_ne]; omega
        clear hodd
        go_wp2_with fail
        go_ret2
        exact byts_nil HR.out (only_iter w s _)
      · have HR := hide (hexR_even hdg.out (by omega))
        have ho2 : (((s.size : Int) % 2) != 0) = false := by rw [bne_eq_false_iff_eq]; omega
        have HEV := hide (show s.size % 2 = 0 by omega)
        obtain ⟨m, hm⟩ : ∃ m, s.size = 2 * m := ⟨s.size / 2, by omega⟩
        have hm2 : (s.size : Int) / 2 = (m : Int) := by omega
        have hmk : ∀ W, (Instr.makeSlice 22 (.int .i64 0) (.int .i64 ((s.size : Int) / 2))).run Try.prog W = .ok (.slice (some ⟨W.heap.size, 0, none⟩) 0 m) (W.alloc (.cells (Array.replicate m (.int .u8 0)) 5)) := by
          intro W
          rw [hm2]
          exact run_make_row W 22 5 i0 _ Try.underlying22 hi hz0 hz1 rfl .i64 .i64 0 m (Nat.zero_le _) (by rw [hz2]; omega) (by omega)
        have HM := hide hm
        have HOW := hide (World.ownsRow_made (base := w.heap.size) (w.iter s s.size) (Array.replicate m (.int .u8 0)) m (by simp [World.iter]) (by unfold maxLen; omega) (e := 5) (size := 1) (by simp))
        have HO := hide ((only_iter w s s.size).alloc (.cells (Array.replicate m (.int .u8 0)) 5))
        clear hodd hm hm2
        go_wp2_with fail
        obtain ⟨w0, hw0⟩ : ∃ w0, w0 = (w.iter s s.size).alloc (.cells (Array.replicate m (.int .u8 0)) 5) := ⟨_, rfl⟩
        rw [← hw0] at HOW HO ⊢
        have hsz : w.heap.size ≤ w0.heap.size := HO.out.size
        clear hw0 hmk ho2
        go_loopw [6, 7] (fun v i wr => ∃ j k : Nat, k ≤ s.size ∧ Hid (k = 2 * j) ∧ i = .int .i64 k ∧ Hid (wr.ownsRow w.heap.size 5 1 v j (ints .u8 (byts (hexP (s.data.toList.take k))))) ∧ Hid (Only [] w wr)) (fun _ i _ => s.size - (intOf i).toNat)
        case atStart => exact ⟨0, 0, Nat.zero_le _, hide rfl, rfl, HOW, HO⟩
        case round =>
          obtain ⟨j, k, hk, hkj, rfl, how, ho⟩ := hrel
          by_cases hlt : k < s.size
          · have hlt1 : k + 1 < s.size := by have := hkj.out; have := HM.out; omega
            have hltI : (k : Int) < s.size := by omega
            have hlt1I : (k : Int) + 1 < s.size := by omega
            have hw1 : IntKind.i64.wrap ((k : Int) + 1) = (k : Int) + 1 := IntWalk.i64_in _ (by omega)
            have h0 : (0 : Int) ≤ (k : Int) + 1 := by omega
            have ht : ((k : Int) + 1).toNat = k + 1 := by omega
            have hx := sign_nib (HX.out k hlt hlt)
            have hy := sign_nib (HX.out (k + 1) hlt1 hlt1)
            obtain ⟨x, hxx⟩ : ∃ x, x = nib s[k] := ⟨_, rfl⟩
            obtain ⟨y, hyy⟩ : ∃ y, y = nib s[k + 1] := ⟨_, rfl⟩
            obtain ⟨z, hzz⟩ : ∃ z, z = 16 * x + y := ⟨_, rfl⟩
            have hx16 : x < 16 := by rw [hxx]; exact nib_lt _
            have hy16 : y < 16 := by rw [hyy]; exact nib_lt _
            have hor := or_nib x y hx16 hy16
            rw [← hzz] at hor
            have HZ := hide (show z = 16 * nib s[k] + nib s[k + 1] by rw [hzz, hxx, hyy])
            rw [← hxx] at hx
            rw [← hyy] at hy
            have hb1 := byte_lt s[k]
            have hb2 := byte_lt s[k + 1]
            have hwa : IntKind.i32.wrap (s[k].toNat : Int) = s[k].toNat := by rw [IntKind.wrap_i32]; omega
            have hwb : IntKind.i32.wrap (s[k + 1].toNat : Int) = s[k + 1].toNat := by rw [IntKind.wrap_i32]; omega
            have hws : IntKind.i64.wrap ((x : Int) * 16) = (x : Int) * 16 := IntWalk.i64_in _ (by omega)
            have hwu : IntKind.u8.wrap (z : Int) = (z : Int) := by rw [IntKind.wrap_u8]; omega
            obtain ⟨Av, cv, rfl, hjc, hcm⟩ := own_form how.out
            have hj : j < 1000000 := by have := hkj.out; omega
            clear hxx hyy hzz hb1 hb2
            have HOW2 := hide (World.ownsRow.alloc (own_only how.out ((Only.refl [] wr).drew) (by simp)) (.cells #[.int .u8 (z : Int)] 5))
            have HO2 := hide (ho.out.drew.alloc (.cells #[.int .u8 (z : Int)] 5))
            have HRN := hide (reads_one wr.drew 5 (.int .u8 (z : Int)) (wr.heap.size + 1) (Nat.lt_succ_self _))
            have HSZ := hide ho.out.size
            go_upto_region 12 with (fail)
            go_region_held3 (fun _ => True) (exact trivial)
              (first
              | (go_at_call 110; refine (sign_any _ _).mono ?_; rintro e w' ⟨rfl, rfl⟩)
              | (refine step_append_any _ rfl (.tmp 30) (.tmp 45) 22 rfl w.heap.size 5 i0 (.int .u8 0) 1 1 Try.underlying22 hi hz0 hz1 hz2 rfl (by decide) _ j _ rfl HOW2.out _ _ 1 1 [.int .u8 (z : Int)] rfl HRN.out (by simp [Value.oneCell']) (by unfold maxLen; omega) (by omega) (by have := HSZ.out; simp; omega) ?_; intro v1 w3 hown1 hg1 _; have HOW3 := hide (one_hex hown1 hkj.out hlt1 HZ.out); have HO3 := hide (HO2.out.grown hg1 (fun j hj => .inr (own_block_ge HOW2.out hj))); clear hown1 hg1))
            all_goals
              go_wp2_with fail
              go_roundw
              case rel => exact ⟨j + 1, k + 2, by omega, hide (by have := hkj.out; omega), by go_num, HOW3, HO3⟩
              case measure => simp [intOf]; omega
          · obtain rfl : k = s.size := by omega
            have hge : ¬ (s.size : Int) < s.size := by omega
            have HRD := hide (rd_whole how.out)
            go_wp2_with fail
            go_ret2
            exact byts_some HR.out ho.out HRD.out
end Go.Proofs.Ytfmfnfmhknlpbaa

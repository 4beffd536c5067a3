/-
  The reference's digit, Print and Hex, by walking. Condition: at most 1,000,000 bytes.
-/
import Derived.Test.YtjkgmkkhjpcngaaDoorHex
import Derived.Lib.ItoaMem
import Derived.StillTailTactics
namespace Go.Proofs.YtjkgmkkhjpcngaaDoor
open Go.RowKit Go.Deep

theorem ret_i {k : IntKind} {a b : Int} (h : a = b) : Ending.returned (.int k a) = .returned (.int k b) := by rw [h]
set_option maxHeartbeats 1600000 in
theorem digit_any (n : Nat) (h : n < 16) (w : World) : Calls Tryd.prog 40 #[.int .u8 (n : Int)] w fun e w' => e = .returned (.int .u8 ((hd n).toNat : Int)) ∧ w = w' := by
  have hv := hd_nat n h
  by_cases h1 : n < 10
  · rw [if_pos h1] at hv
    have HV := hide hv
    have h1' : (n : Int) < 10 := by omega
    clear hv h1
    go_enter Tryd.func40, Tryd.ntmps40
    go_wp2_with fail
    go_ret
    exact ⟨ret_i (by rw [HV.out]; omega), rfl⟩
  · rw [if_neg h1] at hv
    have HV := hide hv
    have h1' : ¬ (n : Int) < 10 := by omega
    clear hv h1
    go_enter Tryd.func40, Tryd.ntmps40
    go_wp2_with fail
    go_ret
    exact ⟨ret_i (by rw [HV.out]; omega), rfl⟩

/-- 'string([]byte{x})', the slice just built. -/
theorem conv_one (c : UInt8) (W : World) : (convert 27 9 (.slice (some ⟨W.heap.size, 0, none⟩) 1 1)).run Tryd.prog (W.alloc (.cells #[.int .u8 (c.toNat : Int)] 5)) = .ok (.string ⟨[c].toArray⟩) (W.alloc (.cells #[.int .u8 (c.toNat : Int)] 5)) :=
  rd_string (l := [c]) (N := []) (rd_new W 5 [] [.int .u8 (c.toNat : Int)] (by simp) (by unfold maxLen; simp)) 27 9 5 Tryd.underlying27 Tryd.underlying5 Tryd.underlying9
theorem conv_two (c d : UInt8) (W : World) : (convert 27 9 (.slice (some ⟨W.heap.size, 0, none⟩) 2 2)).run Tryd.prog (W.alloc (.cells #[.int .u8 (c.toNat : Int), .int .u8 (d.toNat : Int)] 5)) = .ok (.string ⟨[c, d].toArray⟩) (W.alloc (.cells #[.int .u8 (c.toNat : Int), .int .u8 (d.toNat : Int)] 5)) :=
  rd_string (l := [c, d]) (N := []) (rd_new W 5 [] [.int .u8 (c.toNat : Int), .int .u8 (d.toNat : Int)] (by simp) (by unfold maxLen; simp)) 27 9 5 Tryd.underlying27 Tryd.underlying5 Tryd.underlying9

theorem conv_two_drew (c d : UInt8) (W : World) : (convert 27 9 (.slice (some ⟨W.heap.size, 0, none⟩) 2 2)).run Tryd.prog (W.alloc (.cells #[.int .u8 (c.toNat : Int), .int .u8 (d.toNat : Int)] 5)).drew = .ok (.string ⟨[c, d].toArray⟩) (W.alloc (.cells #[.int .u8 (c.toNat : Int), .int .u8 (d.toNat : Int)] 5)).drew :=
  rd_string (l := [c, d]) (N := []) ((rd_new W 5 [] [.int .u8 (c.toNat : Int), .int .u8 (d.toNat : Int)] (by simp) (by unfold maxLen; simp)).only ((Only.refl [] _).drew) (by simp)) 27 9 5 Tryd.underlying27 Tryd.underlying5 Tryd.underlying9
theorem dec_split (u : Nat) (h : ¬ u < 10) : Lib.decDigits u = Lib.decDigits (u / 10) ++ [UInt8.ofNat (48 + u % 10)] := by
  rw [Lib.decDigits, dif_neg h]
theorem dec_len (u : Nat) (h : u < 18446744073709551616) : (Lib.decDigits u).length ≤ 20 := by
  rw [Lib.decDigits_length]
  rcases Nat.eq_zero_or_pos u with h0 | h0
  · subst h0; rw [Lib.nDigits_small (by omega)]; omega
  · have := Lib.numDigits_eq u h0 h
    split at this <;> omega

set_option maxRecDepth 100000 in
set_option maxHeartbeats 3200000 in
theorem print_ref (u : Nat) (hu : u < 18446744073709551616) (w : World) : Calls Tryd.prog 17 #[.int .u64 u] w (StrPost (Lib.decDigits u) w) := by
  have HL := hide (dec_len u hu)
  have HO := hide (Only.refl [] w)
  go_enter Tryd.func17, Tryd.ntmps17
  go_wp2_with fail
  go_loopw [0, 3] (fun x s wr => ∃ (v : Nat) (t : List UInt8), x = .int .u64 v ∧ v < 18446744073709551616 ∧ s = .string ⟨t.toArray⟩ ∧ t.length ≤ 20 ∧ Hid (Lib.decDigits u = Lib.decDigits v ++ t) ∧ Hid (Only [] w wr)) (fun x _ _ => (intOf x).toNat)
  case atStart => exact ⟨u, [], rfl, hu, rfl, by simp, hide (by simp), HO⟩
  case round =>
    obtain ⟨v, t, rfl, hv, rfl, htl, hd, ho⟩ := hrel
    clear hu
    have hm10 : v % 10 < 10 := Nat.mod_lt _ (by omega)
    have hb : (UInt8.ofNat (48 + v % 10)).toNat = 48 + v % 10 := by rw [UInt8.toNat_ofNat']; omega
    by_cases h9 : 9 < v
    · have h9' : (9 : Int) < v := by omega
      have HS := hide (dec_split v (by omega))
      have hcv := fun W => conv_one (UInt8.ofNat (48 + v % 10)) W
      have hlen : (UInt8.ofNat (48 + v % 10) :: t).length ≤ 20 := by
        have h1 := HL.out
        rw [hd.out, List.length_append, HS.out, List.length_append] at h1
        simp at h1 ⊢
        omega
      rw [hb, show ((48 + v % 10 : Nat) : Int) = 48 + (v : Int) % 10 by omega] at hcv
      generalize UInt8.ofNat (48 + v % 10) = c at *
      have hadd : ∀ W : World, (Op.stringOp .add ⟨[c].toArray⟩ ⟨t.toArray⟩).run Tryd.prog W = .ok (.string ⟨([c] ++ t).toArray⟩) W := fun W => run_string_add_lists W _ _ (by simp) (by omega)
      have hx0 : 0 ≤ (v : Int) % 10 := by omega
      have hx9 : (v : Int) % 10 ≤ 9 := by omega
      clear hb hm10
      go_wp2_with fail
      go_roundw
      case rel => exact ⟨v / 10, c :: t, (by rw [show ((v / 10 : Nat) : Int) = (v : Int) / 10 by omega]), by omega, rfl, hlen, hide (by rw [hd.out, HS.out, List.append_assoc]; rfl), ho.out.alloc _⟩
      case measure => simp [intOf]; omega
    · have h9' : ¬ (9 : Int) < v := by omega
      have hmod : v % 10 = v := by omega
      rw [hmod] at hb
      have hcv := fun W => conv_one (UInt8.ofNat (48 + v)) W
      have HV := hide (show Lib.decDigits u = UInt8.ofNat (48 + v) :: t by rw [hd.out, Lib.decDigits, dif_pos (by omega)]; rfl)
      rw [hb, show ((48 + v : Nat) : Int) = 48 + (v : Int) by omega] at hcv
      generalize UInt8.ofNat (48 + v) = c at *
      have hadd : ∀ W : World, (Op.stringOp .add ⟨[c].toArray⟩ ⟨t.toArray⟩).run Tryd.prog W = .ok (.string ⟨([c] ++ t).toArray⟩) W := fun W => run_string_add_lists W _ _ (by simp) (by omega)
      clear hb hm10 hmod
      go_wp2_with fail
      go_ret
      exact strpost HV.out (ho.out.alloc _)

theorem hexS_two (l : List UInt8) (k : Nat) (c : UInt8) (h : l[k]? = some c) : hexS (l.take (k + 1)) = hexS (l.take k) ++ [hd (c.toNat / 16), hd (c.toNat % 16)] := by
  rw [take_snoc_l l k c h, hexS_append]; rfl

set_option maxRecDepth 100000 in
set_option maxHeartbeats 6400000 in
theorem hex_ref (w : World) (N : List Nat) (v : Value) (l : List UInt8) (hv : Rd w N v (ints .u8 (byts l))) (hl : l.length ≤ 1000000) :
    Calls Tryd.prog 18 #[v] w (StrPost (hexS l) w) := by
  obtain ⟨A, cap, rfl, hcap, hmx⟩ := hv.formb
  have HV := hide hv
  obtain ⟨n, hn⟩ : ∃ n, n = l.length := ⟨_, rfl⟩
  have HN := hide hn
  rw [← hn] at hcap HV hl ⊢
  clear hv hn
  have HO := hide (Only.refl [] w)
  go_enter Tryd.func18, Tryd.ntmps18
  go_wp2_with fail
  go_loopw [3, 4] (fun s i wr => ∃ (k : Nat) (t : List UInt8), k ≤ n ∧ i = .int .i64 k ∧ s = .string ⟨t.toArray⟩ ∧ t.length ≤ 2 * k ∧ Hid (hexS (l.take k) = t) ∧ Hid (Only [] w wr)) (fun _ i _ => n - (intOf i).toNat)
  case atStart => exact ⟨0, [], Nat.zero_le _, rfl, rfl, by simp, hide rfl, HO⟩
  case round =>
    obtain ⟨k, t, hk, rfl, rfl, htl, ht, ho⟩ := hrel
    by_cases hlt : k < n
    · have hlt' : (k : Int) < n := by omega
      have hkl : k < l.length := by rw [← HN.out]; exact hlt
      obtain ⟨c, hc⟩ : ∃ c, l[k]? = some c := ⟨l[k], List.getElem?_eq_getElem hkl⟩
      have HT := hide (hexS_two l k c hc)
      obtain ⟨g, o, rfl, _, hg, hcell⟩ := HV.out.at_.2.2.2 k (.int .u8 (c.toNat : Int)) (ints_get (byts_get hc))
      have HCE := hide (show ∀ W, Only [] w W → W.cell? ⟨g, o + k, none⟩ = some (.int .u8 (c.toNat : Int)) from fun W h => (cell_only h hg (by simp)).trans hcell)
      have c1 := HCE.out _ ho.out
      have hc256 := c.toNat_lt
      have hcI : (c.toNat : Int) < 256 := by omega
      have HA := hide (fun W => digit_any (c.toNat / 16) (by omega) W)
      have HB := hide (fun W => digit_any (c.toNat % 16) (by omega) W)
      rw [show ((c.toNat / 16 : Nat) : Int) = (c.toNat : Int) / 16 by omega] at HA
      rw [show ((c.toNat % 16 : Nat) : Int) = (c.toNat : Int) % 16 by omega] at HB
      have hq : IntKind.u8.wrap ((c.toNat : Int) / 16) = (c.toNat : Int) / 16 := by rw [IntKind.wrap_u8]; omega
      have hm16 : ((c.toNat : Int)).tmod 16 = (c.toNat : Int) % 16 := Int.tmod_eq_emod_of_nonneg (by omega)
      have hcv := fun W => conv_two (hd (c.toNat / 16)) (hd (c.toNat % 16)) W
      have hcv2 := fun W => conv_two_drew (hd (c.toNat / 16)) (hd (c.toNat % 16)) W
      generalize hd (c.toNat / 16) = x at *
      generalize hd (c.toNat % 16) = y at *
      have hadd : ∀ W : World, (Op.stringOp .add ⟨t.toArray⟩ ⟨[x, y].toArray⟩).run Tryd.prog W = .ok (.string ⟨(t ++ [x, y]).toArray⟩) W := fun W => run_string_add_lists W _ _ (by omega) (by simp)
      have HO2 := hide ((ho.out.alloc (.cells #[.int .u8 (x.toNat : Int), .int .u8 (y.toNat : Int)] 5)).drew)
      have c2 := HCE.out _ HO2.out
      clear hc hcell
      go_upto_region 5 with (fail)
      go_region_with (first
        | (go_at_call 40; (with_reducible refine (HA.out _).mono ?_); rintro e w' ⟨rfl, rfl⟩)
        | (go_at_call 40; (with_reducible refine (HB.out _).mono ?_); rintro e w' ⟨rfl, rfl⟩))
      all_goals
        go_wp2_with fail
        go_roundw
        case rel => exact ⟨k + 1, t ++ [x, y], by omega, (by go_num), rfl, (by simp; omega), hide (by rw [HT.out, ht.out]), hide (by first | exact HO2.out | exact HO2.out.drew)⟩
        case measure => simp [intOf]; omega
    · obtain rfl : k = n := by omega
      have hge : ¬ (k : Int) < k := by omega
      have HV2 := hide (show hexS l = t by rw [← ht.out, List.take_of_length_le (Nat.le_of_eq HN.out.symm)])
      go_wp2_with fail
      go_ret
      exact strpost HV2.out ho.out
end Go.Proofs.YtjkgmkkhjpcngaaDoor

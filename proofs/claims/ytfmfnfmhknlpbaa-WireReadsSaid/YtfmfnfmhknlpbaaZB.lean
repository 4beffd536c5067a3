/-
  The reference's digit, Print and Hex, by walking. Condition: at most 1,000,000 bytes.
  The reference's Read (a number's text), by walking. Condition: the text has at most 1,000,000 bytes.
  The reference's value and ReadHex, by walking. Condition: the text has at most 1,000,000 bytes.
  The reference's ReadHex, by walking. Condition: the text has at most 1,000,000 bytes.
-/
import Derived.Test.YtfmfnfmhknlpbaaHexQ
import Derived.Lib.ItoaMem
import Derived.StillTailTactics
namespace Go.Proofs.Ytfmfnfmhknlpbaa
open Go.RowKit Go.Deep

theorem ret_i {k : IntKind} {a b : Int} (h : a = b) : Ending.returned (.int k a) = .returned (.int k b) := by rw [h]
set_option maxHeartbeats 1600000 in
theorem digit_any (n : Nat) (h : n < 16) (w : World) : Calls Try.prog 116 #[.int .u8 (n : Int)] w fun e w' => e = .returned (.int .u8 ((hd n).toNat : Int)) ∧ w = w' := by
  have hv := hd_nat n h
  by_cases h1 : n < 10
  · rw [if_pos h1] at hv
    have HV := hide hv
    have h1' : (n : Int) < 10 := by omega
    clear hv h1
    go_enter Try.func116, Try.ntmps116
    go_wp2_with fail
    go_ret
    exact ⟨ret_i (by rw [HV.out]; omega), rfl⟩
  · rw [if_neg h1] at hv
    have HV := hide hv
    have h1' : ¬ (n : Int) < 10 := by omega
    clear hv h1
    go_enter Try.func116, Try.ntmps116
    go_wp2_with fail
    go_ret
    exact ⟨ret_i (by rw [HV.out]; omega), rfl⟩

/-- 'string([]byte{x})', the slice just built. -/
theorem conv_one (c : UInt8) (W : World) : (convert 22 9 (.slice (some ⟨W.heap.size, 0, none⟩) 1 1)).run Try.prog (W.alloc (.cells #[.int .u8 (c.toNat : Int)] 5)) = .ok (.string ⟨[c].toArray⟩) (W.alloc (.cells #[.int .u8 (c.toNat : Int)] 5)) :=
  rd_string (l := [c]) (N := []) (rd_new W 5 [] [.int .u8 (c.toNat : Int)] (by simp) (by unfold maxLen; simp)) 22 9 5 Try.underlying22 Try.underlying5 Try.underlying9
theorem conv_two (c d : UInt8) (W : World) : (convert 22 9 (.slice (some ⟨W.heap.size, 0, none⟩) 2 2)).run Try.prog (W.alloc (.cells #[.int .u8 (c.toNat : Int), .int .u8 (d.toNat : Int)] 5)) = .ok (.string ⟨[c, d].toArray⟩) (W.alloc (.cells #[.int .u8 (c.toNat : Int), .int .u8 (d.toNat : Int)] 5)) :=
  rd_string (l := [c, d]) (N := []) (rd_new W 5 [] [.int .u8 (c.toNat : Int), .int .u8 (d.toNat : Int)] (by simp) (by unfold maxLen; simp)) 22 9 5 Try.underlying22 Try.underlying5 Try.underlying9

theorem conv_two_drew (c d : UInt8) (W : World) : (convert 22 9 (.slice (some ⟨W.heap.size, 0, none⟩) 2 2)).run Try.prog (W.alloc (.cells #[.int .u8 (c.toNat : Int), .int .u8 (d.toNat : Int)] 5)).drew = .ok (.string ⟨[c, d].toArray⟩) (W.alloc (.cells #[.int .u8 (c.toNat : Int), .int .u8 (d.toNat : Int)] 5)).drew :=
  rd_string (l := [c, d]) (N := []) ((rd_new W 5 [] [.int .u8 (c.toNat : Int), .int .u8 (d.toNat : Int)] (by simp) (by unfold maxLen; simp)).only ((Only.refl [] _).drew) (by simp)) 22 9 5 Try.underlying22 Try.underlying5 Try.underlying9
theorem dec_split (u : Nat) (h : ¬ u < 10) : Lib.decDigits u = Lib.decDigits (u / 10) ++ [UInt8.ofNat (48 + u % 10)] := by
  rw [Lib.decDigits, dif_neg h]
theorem dec_len (u : Nat) (h : u < 18446744073709551616) : (Lib.decDigits u).length ≤ 20 := by
  rw [Lib.decDigits_length]
  rcases Nat.eq_zero_or_pos u with h0 | h0
  · subst h0; rw [Lib.nDigits_small (by omega)]; omega
  · have := Lib.numDigits_eq u h0 h
    split at this <;> omega

theorem hexS_two (l : List UInt8) (k : Nat) (c : UInt8) (h : l[k]? = some c) : hexS (l.take (k + 1)) = hexS (l.take k) ++ [hd (c.toNat / 16), hd (c.toNat % 16)] := by
  rw [take_snoc_l l k c h, hexS_append]; rfl

end Go.Proofs.Ytfmfnfmhknlpbaa

namespace Go.Proofs.Ytfmfnfmhknlpbaa
open Go.RowKit Go.Deep

def NumRPost' (r : Nat × Nat) (w : World) (e : Ending) (w' : World) : Prop := e = .returned (.tuple #[.int .u64 r.1, .int .i64 r.2]) ∧ w = w'
theorem numr' {a b : Nat} {r : Nat × Nat} {w : World} (h : r = (a, b)) : NumRPost' r w (.returned (.tuple #[.int .u64 a, .int .i64 b])) w := by
  subst h; exact ⟨rfl, rfl⟩

set_option maxRecDepth 100000 in
set_option maxHeartbeats 6400000 in
theorem read_ref (w : World) (s : ByteArray) (hs : s.size ≤ 1000000) : Calls Try.prog 92 #[.string s] w (NumRPost' (numR s.data.toList) w) := by
  by_cases h0 : s.size = 0
  · have HR := hide (numR_empty s h0)
    have hb : ((s.size : Int) == 0) = true := by rw [beq_iff_eq]; omega
    have hb1 : (s.size == 0) = true := by simpa using h0
    clear h0
    go_enter Try.func92, Try.ntmps92
    go_wp2_with fail
    go_ret2
    exact numr' HR.out
  have hpos : 0 < s.size := by omega
  have hb : ((s.size : Int) == 0) = false := by rw [beq_eq_false_iff_ne]; omega
  have hb1 : (s.size == 0) = false := by simpa using h0
  by_cases hlead : s[0].toNat = 48 ∧ 1 < s.size
  · have HR := hide (numR_lead s hlead.2 hlead.1)
    obtain ⟨h1, h2⟩ := hlead
    have h2' : (1 : Int) < s.size := by omega
    have h1' : ((s[0].toNat : Int) == 48) = true := by rw [beq_iff_eq]; omega
    clear h0 h1
    go_enter Try.func92, Try.ntmps92
    go_wp2_with fail
    go_ret2
    exact numr' HR.out
  have HLE := hide hlead
  have hcs : (¬ (1 : Int) < s.size) ∨ ((1 : Int) < s.size ∧ ((s[0].toNat : Int) == 48) = false) := by
    by_cases h2 : 1 < s.size
    · refine .inr ⟨by omega, ?_⟩
      rw [beq_eq_false_iff_ne]
      intro h
      exact hlead ⟨by omega, h2⟩
    · exact .inl (by omega)
  clear h0 hlead
  rcases hcs with h2 | ⟨h2, h1⟩
  all_goals
    go_enter Try.func92, Try.ntmps92
    go_wp2_with fail
    go_loop [4] (fun i => ∃ k : Nat, k ≤ s.size ∧ i = .int .i64 k ∧ Hid (Digs s k)) (fun i => s.size - (intOf i).toNat)
    case atStart => exact ⟨0, Nat.zero_le _, rfl, hide (fun i _ h => by omega)⟩
    case round =>
      obtain ⟨k, hk, rfl, hdg⟩ := hrel
      by_cases hlt : k < s.size
      · have hltI : (k : Int) < s.size := by omega
        cases hd : digB s[k] with
        | true =>
          have hc1 : (48 : Int) ≤ s[k].toNat := by simp [digB] at hd; omega
          have hc2 : (s[k].toNat : Int) ≤ 57 := by simp [digB] at hd; omega
          have HS := hide (digs_succ hdg.out hlt hd)
          clear hd
          go_wp2_with fail
          go_round
          case rel => exact ⟨k + 1, by omega, by go_num, HS⟩
          case measure => simp [intOf]; omega
        | false =>
          have HR := hide (numR_bad s k hlt hd)
          have hb : (s[k].toNat : Int) < 48 ∨ (57 : Int) < s[k].toNat ∧ ¬ (s[k].toNat : Int) < 48 := by simp [digB] at hd; omega
          clear hd
          rcases hb with hb | ⟨hb, hb2⟩
          all_goals
            go_wp2_with fail
            go_ret2
            exact numr' HR.out
      · obtain rfl : k = s.size := by omega
        have hge : ¬ (s.size : Int) < s.size := by omega
        have HALL := hide hdg.out
        have HGO := hide (numR_go s hpos (all_true s.data.toList fun i hi => hdg.out i (by simpa using hi) (by simpa using hi)) HLE.out)
        clear hdg
        go_wp2_with fail
        go_loop [5, 6] (fun x i => ∃ u k : Nat, k ≤ s.size ∧ x = .int .u64 u ∧ u < 18446744073709551616 ∧ i = .int .i64 k ∧ Hid (accN (s.data.toList.drop k) u = accN s.data.toList 0)) (fun _ i => s.size - (intOf i).toNat)
        case atStart => exact ⟨0, 0, Nat.zero_le _, rfl, by omega, rfl, hide rfl⟩
        case round =>
          obtain ⟨u, k, hk, rfl, hu, rfl, hacc⟩ := hrel
          by_cases hlt : k < s.size
          · have hltI : (k : Int) < s.size := by omega
            have HDR := hide (drop_at s k hlt)
            have HC := HALL.out k hlt hlt
            have hc1 : 48 ≤ s[k].toNat := by simp [digB] at HC; omega
            have hc2 : s[k].toNat ≤ 57 := by simp [digB] at HC; omega
            have hc1' : (48 : Int) ≤ s[k].toNat := by omega
            have hc2' : (s[k].toNat : Int) ≤ 57 := by omega
            clear HC
            by_cases hov : 1844674407370955161 < u ∨ (u = 1844674407370955161 ∧ 5 < s[k].toNat - 48)
            · have HR := hide (show numR s.data.toList = (0, 5) from by rw [HGO.out, ← hacc.out, HDR.out, accN, if_pos hov])
              have ht : (18446744073709551615 - ((s[k].toNat : Int) - 48)) / 10 < (u : Int) := by omega
              clear hov
              go_wp2_with fail
              go_ret2
              exact numr' HR.out
            · have HN := hide (show accN (s.data.toList.drop (k + 1)) (u * 10 + (s[k].toNat - 48)) = accN s.data.toList 0 from by rw [← hacc.out, HDR.out, accN, if_neg hov])
              have ht : ¬ (18446744073709551615 - ((s[k].toNat : Int) - 48)) / 10 < (u : Int) := by omega
              have hlim : u * 10 + (s[k].toNat - 48) < 18446744073709551616 := by omega
              clear hov
              go_wp2_with fail
              go_round
              case rel => exact ⟨u * 10 + (s[k].toNat - 48), k + 1, by omega, congrArg (Value.int .u64) (by omega), hlim, (by go_num), HN⟩
              case measure => simp [intOf]; omega
          · obtain rfl : k = s.size := by omega
            have hge : ¬ (s.size : Int) < s.size := by omega
            have HR := hide (show numR s.data.toList = (u, 0) from by rw [HGO.out, ← hacc.out, show List.drop s.size s.data.toList = [] from List.drop_of_length_le (Nat.le_of_eq rfl)]; rfl)
            go_wp2_with fail
            go_ret2
            exact numr' HR.out
end Go.Proofs.Ytfmfnfmhknlpbaa

namespace Go.Proofs.Ytfmfnfmhknlpbaa
open Go.RowKit Go.Deep

def valV (c : UInt8) : Nat := if hexB c = true then nib c else 16
theorem hd_eq (n : Nat) (h : n < 16) (c : UInt8) : (hd n).toNat = c.toNat ↔ (hexB c = true ∧ nib c = n) := by
  rw [hd_nat n h]
  have hc := c.toNat_lt
  unfold hexB nib signV
  by_cases h1 : n < 10
  · rw [if_pos h1]
    constructor
    · intro e
      rw [if_pos (by omega)]
      exact ⟨by simp; omega, by omega⟩
    · rintro ⟨a, b⟩
      split at b
      · omega
      · split at b <;> rename_i h2 h3
        · omega
        · simp only [h2, h3, if_false] at a
          simp at a
  · rw [if_neg h1]
    constructor
    · intro e
      rw [if_neg (by omega), if_pos (by omega)]
      exact ⟨by simp; omega, by omega⟩
    · rintro ⟨a, b⟩
      split at b
      · omega
      · split at b <;> rename_i h2 h3
        · omega
        · omega

set_option maxHeartbeats 3200000 in
theorem value_any (c : UInt8) (w : World) : Calls Try.prog 114 #[.int .u8 (c.toNat : Int)] w fun e w' => e = .returned (.int .u8 (valV c : Nat)) ∧ w = w' := by
  go_enter Try.func114, Try.ntmps114
  go_wp2_with fail
  go_loop [3] (fun i => ∃ k : Nat, k ≤ 16 ∧ i = .int .u8 k ∧ Hid (∀ m, m < k → (hd m).toNat ≠ c.toNat)) (fun i => 16 - (intOf i).toNat)
  case atStart => exact ⟨0, by omega, rfl, hide (fun m h => by omega)⟩
  case round =>
    obtain ⟨k, hk, rfl, hne⟩ := hrel
    by_cases hlt : k < 16
    · have hlt' : (k : Int) < 16 := by omega
      have HD := hide (fun W => digit_any k hlt W)
      by_cases he : (hd k).toNat = c.toNat
      · have HV := hide (show valV c = k by
          have := (hd_eq k hlt c).1 he
          unfold valV; rw [if_pos this.1]; exact this.2)
        have heb : (((hd k).toNat : Int) == (c.toNat : Int)) = true := by rw [beq_iff_eq]; omega
        have heb2 : ((hd k).toNat == c.toNat) = true := by simpa using he
        clear he
        generalize (hd k).toNat = y at *
        go_wp2_with (go_at_call 116; refine (HD.out _).mono ?_; rintro e w' ⟨rfl, rfl⟩)
        go_ret
        exact ⟨ret_i (by rw [HV.out]), rfl⟩
      · have heb : (((hd k).toNat : Int) == (c.toNat : Int)) = false := by rw [beq_eq_false_iff_ne]; omega
        have heb2 : ((hd k).toNat == c.toNat) = false := by simpa using he
        have HN := hide (show ∀ m, m < k + 1 → (hd m).toNat ≠ c.toNat from fun m hm => by
          by_cases e : m = k
          · subst e; exact he
          · exact hne.out m (by omega))
        clear he
        generalize (hd k).toNat = y at heb heb2 HD
        go_wp2_with (go_at_call 116; refine (HD.out _).mono ?_; rintro e w' ⟨rfl, rfl⟩)
        go_round
        case rel => exact ⟨k + 1, by omega, by go_num, HN⟩
        case measure => simp [intOf]; omega
    · obtain rfl : k = 16 := by omega
      have HV := hide (show valV c = 16 by
        unfold valV
        split
        · rename_i hx
          exact absurd ((hd_eq (nib c) (nib_lt c) c).2 ⟨hx, rfl⟩) (hne.out _ (nib_lt c))
        · rfl)
      go_wp2_with fail
      go_ret
      exact ⟨ret_i (by rw [HV.out]; rfl), rfl⟩
end Go.Proofs.Ytfmfnfmhknlpbaa

namespace Go.Proofs.Ytfmfnfmhknlpbaa
open Go.RowKit Go.Deep

theorem valV_lt (c : UInt8) : valV c ≤ 16 := by unfold valV; have := nib_lt c; split <;> omega
theorem valV_hex {c : UInt8} (h : hexB c = true) : valV c = nib c := by unfold valV; rw [if_pos h]
theorem valV_bad {c : UInt8} (h : hexB c = false) : valV c = 16 := by unfold valV; rw [if_neg (by rw [h]; exact Bool.false_ne_true)]

set_option maxRecDepth 100000 in
set_option maxHeartbeats 6400000 in
theorem readhex_ref (w : World) (s : ByteArray) (hs : s.size ≤ 1000000) :
    Calls Try.prog 107 #[.string s] w (BytsPost (hexR s.data.toList) w) := by
  obtain ⟨i0, hi, hz0, hz1, hz2⟩ := info_parts (show (Try.prog.info? 5).map (fun i => (i.zero, i.size, i.bytes)) = some (some (.int .u8 0), 1, 1) by kernel_rfl)
  go_enter Try.func107, Try.ntmps107
  go_wp2_with fail
  go_loop [4] (fun i => ∃ k : Nat, k ≤ s.size ∧ i = .int .i64 k ∧ Hid (Hexs s k)) (fun i => s.size - (intOf i).toNat)
  case atStart => exact ⟨0, Nat.zero_le _, rfl, hide (fun i _ h => by omega)⟩
  case round =>
    obtain ⟨k, hk, rfl, hdg⟩ := hrel
    by_cases hlt : k < s.size
    · have hltI : (k : Int) < s.size := by omega
      cases hd : hexB s[k] with
      | true =>
        have HS := hide (hexs_succ hdg.out hlt hd)
        have hx := nib_lt s[k]
        have hv := valV_hex hd
        clear hd
        generalize nib s[k] = x at *
        have hne : ((x : Int) == 16) = false := by rw [beq_eq_false_iff_ne]; omega
        have hne2 : (x == 16) = false := by rw [beq_eq_false_iff_ne]; omega
        go_wp2_with (go_at_call 114; refine (value_any _ _).mono ?_; rintro e w' ⟨rfl, rfl⟩; rw [hv])
        go_round
        case rel => exact ⟨k + 1, by omega, by go_num, HS⟩
        case measure => simp [intOf]; omega
      | false =>
        have HR := hide (hexR_bad s k hlt hd)
        have hv := valV_bad hd
        clear hd
        go_wp2_with (go_at_call 114; refine (value_any _ _).mono ?_; rintro e w' ⟨rfl, rfl⟩; rw [hv])
        go_ret2
        exact byts_nil HR.out (Only.refl _ _)
    · obtain rfl : k = s.size := by omega
      have hge0 : ¬ (s.size : Int) < s.size := by omega
      have HX := hide hdg.out
      by_cases hodd : s.size % 2 = 1
      · have HR := hide (hexR_odd hdg.out hodd)
        have ho2 : (((s.size : Int) % 2) == 1) = true := by rw [beq_iff_eq]; omega
        have ho3 : (((s.size : Int).tmod 2) == 1) = true := by rw [Int.tmod_eq_emod_of_nonneg (by omega)]; exact ho2
        clear hodd
        go_wp2_with fail
        go_ret2
        exact byts_nil HR.out (Only.refl _ _)
      · have HR := hide (hexR_even hdg.out (by omega))
        have ho2 : (((s.size : Int) % 2) == 1) = false := by rw [beq_eq_false_iff_ne]; omega
        have ho3 : (((s.size : Int).tmod 2) == 1) = false := by rw [Int.tmod_eq_emod_of_nonneg (by omega)]; exact ho2
        have HEV := hide (show s.size % 2 = 0 by omega)
        have HOW := hide (World.ownsRow_lit (base := w.heap.size) w #[] 0 (Nat.le_refl _) (by unfold maxLen; omega) (e := 5) (size := 1) (by simp))
        have HO := hide ((Only.refl [] w).alloc (.cells #[] 5))
        clear hodd
        go_wp2_with fail
        obtain ⟨w0, hw0⟩ : ∃ w0, w0 = w.alloc (.cells #[] 5) := ⟨_, rfl⟩
        rw [← hw0] at HOW HO ⊢
        clear hw0 ho2 ho3
        go_loopw [5, 6] (fun v i wr => ∃ j k : Nat, k ≤ s.size ∧ Hid (k = 2 * j) ∧ i = .int .i64 k ∧ Hid (wr.ownsRow w.heap.size 5 1 v j (ints .u8 (byts (hexP (s.data.toList.take k))))) ∧ Hid (Only [] w wr)) (fun _ i _ => s.size - (intOf i).toNat)
        case atStart => exact ⟨0, 0, Nat.zero_le _, hide rfl, rfl, HOW, HO⟩
        case round =>
          obtain ⟨j, k, hk, hkj, rfl, how, ho⟩ := hrel
          by_cases hlt : k < s.size
          · have hlt1 : k + 1 < s.size := by have := hkj.out; have := HEV.out; omega
            have hltI : (k : Int) < s.size := by omega
            have hlt1I : (k : Int) + 1 < s.size := by omega
            have hw1 : IntKind.i64.wrap ((k : Int) + 1) = (k : Int) + 1 := IntWalk.i64_in _ (by omega)
            have h0 : (0 : Int) ≤ (k : Int) + 1 := by omega
            have ht : ((k : Int) + 1).toNat = k + 1 := by omega
            have hx := valV_hex (HX.out k hlt hlt)
            have hy := valV_hex (HX.out (k + 1) hlt1 hlt1)
            obtain ⟨x, hxx⟩ : ∃ x, x = nib s[k] := ⟨_, rfl⟩
            obtain ⟨y, hyy⟩ : ∃ y, y = nib s[k + 1] := ⟨_, rfl⟩
            obtain ⟨z, hzz⟩ : ∃ z, z = 16 * x + y := ⟨_, rfl⟩
            have hx16 : x < 16 := by rw [hxx]; exact nib_lt _
            have hy16 : y < 16 := by rw [hyy]; exact nib_lt _
            have HZ := hide (show z = 16 * nib s[k] + nib s[k + 1] by rw [hzz, hxx, hyy])
            rw [← hxx] at hx
            rw [← hyy] at hy
            have hwm : IntKind.u8.wrap (16 * (x : Int)) = 16 * (x : Int) := by rw [IntKind.wrap_u8]; omega
            have hwu : IntKind.u8.wrap (16 * (x : Int) + (y : Int)) = (z : Int) := by rw [IntKind.wrap_u8]; omega
            obtain ⟨Av, cv, rfl, hjc, hcm⟩ := own_form how.out
            have hj : j < 1000000 := by have := hkj.out; omega
            clear hxx hyy hzz
            have HOW2 := hide (World.ownsRow.alloc (own_only how.out ((Only.refl [] wr).drew) (by simp)) (.cells #[.int .u8 (z : Int)] 5))
            have HO2 := hide (ho.out.drew.alloc (.cells #[.int .u8 (z : Int)] 5))
            have HRN := hide (reads_one wr.drew 5 (.int .u8 (z : Int)) (wr.heap.size + 1) (Nat.lt_succ_self _))
            have HSZ := hide ho.out.size
            have HSZ0 := hide HO.out.size
            go_upto_region 12 with (fail)
            go_region_held3 (fun _ => True) (exact trivial)
              (first
              | (go_at_call 114; refine (value_any _ _).mono ?_; rintro e w' ⟨rfl, rfl⟩; first | rw [hx] | rw [hy])
              | (refine step_append_any _ rfl (.tmp 29) (.tmp 41) 22 rfl w.heap.size 5 i0 (.int .u8 0) 1 1 Try.underlying22 hi hz0 hz1 hz2 rfl (by decide) _ j _ rfl HOW2.out _ _ 1 1 [.int .u8 (z : Int)] rfl HRN.out (by simp [Value.oneCell']) (by unfold maxLen; omega) (by omega) (by have := HSZ.out; simp; omega) ?_; intro v1 w3 hown1 hg1 _; have HOW3 := hide (one_hex hown1 hkj.out hlt1 HZ.out); have HO3 := hide (HO2.out.grown hg1 (fun j hj => .inr (own_block_ge HOW2.out hj))); clear hown1 hg1))
            all_goals
              go_wp2_with fail
              go_roundw
              case rel => exact ⟨j + 1, k + 2, by omega, hide (by have := hkj.out; omega), by go_num, HOW3, HO3⟩
              case measure => simp [intOf]; omega
          · obtain rfl : k = s.size := by omega
            have hge : ¬ (s.size : Int) < s.size := by omega
            have HRD := hide (rd_whole how.out)
            go_wp2_with fail
            go_ret2
            exact byts_some HR.out ho.out HRD.out
end Go.Proofs.Ytfmfnfmhknlpbaa

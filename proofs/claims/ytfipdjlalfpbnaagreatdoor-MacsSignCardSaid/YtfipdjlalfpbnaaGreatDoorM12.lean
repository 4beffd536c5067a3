/-
  Walks and plain words (texts Nr1, Nr2, Nr3, Nr4, Rt1). No condition beyond those that each theorem states.
-/
import Derived.Lib.ItoaMem
import Derived.StillTailTactics
import Derived.Test.YtfipdjlalfpbnaaGreatDoorM06
import Derived.Test.YtfipdjlalfpbnaaGreatDoorM11
namespace Go.Proofs.YtfipdjlalfpbnaaGreatDoor
section
open Go.RowKit Go.Deep

theorem ret_i {k : IntKind} {a b : Int} (h : a = b) : Ending.returned (.int k a) = .returned (.int k b) := by rw [h]
set_option maxHeartbeats 1600000 in
theorem digit_any (n : Nat) (h : n < 16) (w : World) : Calls Tryz.prog 142 #[.int .u8 (n : Int)] w fun e w' => e = .returned (.int .u8 ((hd n).toNat : Int)) ∧ w = w' := by
  have hv := hd_nat n h
  by_cases h1 : n < 10
  · rw [if_pos h1] at hv
    have HV := hide hv
    have h1' : (n : Int) < 10 := by omega
    clear hv h1
    go_enter Tryz.func142, Tryz.ntmps142
    go_wp2_with fail
    go_ret
    exact ⟨ret_i (by rw [HV.out]; omega), rfl⟩
  · rw [if_neg h1] at hv
    have HV := hide hv
    have h1' : ¬ (n : Int) < 10 := by omega
    clear hv h1
    go_enter Tryz.func142, Tryz.ntmps142
    go_wp2_with fail
    go_ret
    exact ⟨ret_i (by rw [HV.out]; omega), rfl⟩

/-- 'string([]byte{x})', the slice just built. -/
theorem conv_one (c : UInt8) (W : World) : (convert 55 9 (.slice (some ⟨W.heap.size, 0, none⟩) 1 1)).run Tryz.prog (W.alloc (.cells #[.int .u8 (c.toNat : Int)] 5)) = .ok (.string ⟨[c].toArray⟩) (W.alloc (.cells #[.int .u8 (c.toNat : Int)] 5)) :=
  rd_string (l := [c]) (N := []) (rd_new W 5 [] [.int .u8 (c.toNat : Int)] (by simp) (by unfold maxLen; simp)) 55 9 5 Tryz.underlying55 Tryz.underlying5 Tryz.underlying9
theorem conv_two (c d : UInt8) (W : World) : (convert 55 9 (.slice (some ⟨W.heap.size, 0, none⟩) 2 2)).run Tryz.prog (W.alloc (.cells #[.int .u8 (c.toNat : Int), .int .u8 (d.toNat : Int)] 5)) = .ok (.string ⟨[c, d].toArray⟩) (W.alloc (.cells #[.int .u8 (c.toNat : Int), .int .u8 (d.toNat : Int)] 5)) :=
  rd_string (l := [c, d]) (N := []) (rd_new W 5 [] [.int .u8 (c.toNat : Int), .int .u8 (d.toNat : Int)] (by simp) (by unfold maxLen; simp)) 55 9 5 Tryz.underlying55 Tryz.underlying5 Tryz.underlying9

theorem conv_two_drew (c d : UInt8) (W : World) : (convert 55 9 (.slice (some ⟨W.heap.size, 0, none⟩) 2 2)).run Tryz.prog (W.alloc (.cells #[.int .u8 (c.toNat : Int), .int .u8 (d.toNat : Int)] 5)).drew = .ok (.string ⟨[c, d].toArray⟩) (W.alloc (.cells #[.int .u8 (c.toNat : Int), .int .u8 (d.toNat : Int)] 5)).drew :=
  rd_string (l := [c, d]) (N := []) ((rd_new W 5 [] [.int .u8 (c.toNat : Int), .int .u8 (d.toNat : Int)] (by simp) (by unfold maxLen; simp)).only ((Only.refl [] _).drew) (by simp)) 55 9 5 Tryz.underlying55 Tryz.underlying5 Tryz.underlying9
theorem dec_split (u : Nat) (h : ¬ u < 10) : Lib.decDigits u = Lib.decDigits (u / 10) ++ [UInt8.ofNat (48 + u % 10)] := by
  rw [Lib.decDigits, dif_neg h]
theorem dec_len (u : Nat) (h : u < 18446744073709551616) : (Lib.decDigits u).length ≤ 20 := by
  rw [Lib.decDigits_length]
  rcases Nat.eq_zero_or_pos u with h0 | h0
  · subst h0; rw [Lib.nDigits_small (by omega)]; omega
  · have := Lib.numDigits_eq u h0 h
    split at this <;> omega

set_option maxRecDepth 100000 in
set_option maxHeartbeats 3200000 in
theorem print_ref (u : Nat) (hu : u < 18446744073709551616) (w : World) : Calls Tryz.prog 128 #[.int .u64 u] w (StrPost (Lib.decDigits u) w) := by
  have HL := hide (dec_len u hu)
  have HO := hide (Only.refl [] w)
  go_enter Tryz.func128, Tryz.ntmps128
  go_wp2_with fail
  go_loopw [0, 3] (fun x s wr => ∃ (v : Nat) (t : List UInt8), x = .int .u64 v ∧ v < 18446744073709551616 ∧ s = .string ⟨t.toArray⟩ ∧ t.length ≤ 20 ∧ Hid (Lib.decDigits u = Lib.decDigits v ++ t) ∧ Hid (Only [] w wr)) (fun x _ _ => (intOf x).toNat)
  case atStart => exact ⟨u, [], rfl, hu, rfl, by simp, hide (by simp), HO⟩
  case round =>
    obtain ⟨v, t, rfl, hv, rfl, htl, hd, ho⟩ := hrel
    clear hu
    have hm10 : v % 10 < 10 := Nat.mod_lt _ (by omega)
    have hb : (UInt8.ofNat (48 + v % 10)).toNat = 48 + v % 10 := by rw [UInt8.toNat_ofNat']; omega
    by_cases h9 : 9 < v
    · have h9' : (9 : Int) < v := by omega
      have HS := hide (dec_split v (by omega))
      have hcv := fun W => conv_one (UInt8.ofNat (48 + v % 10)) W
      have hlen : (UInt8.ofNat (48 + v % 10) :: t).length ≤ 20 := by
        have h1 := HL.out
        rw [hd.out, List.length_append, HS.out, List.length_append] at h1
        simp at h1 ⊢
        omega
      rw [hb, show ((48 + v % 10 : Nat) : Int) = 48 + (v : Int) % 10 by omega] at hcv
      generalize UInt8.ofNat (48 + v % 10) = c at *
      have hadd : ∀ W : World, (Op.stringOp .add ⟨[c].toArray⟩ ⟨t.toArray⟩).run Tryz.prog W = .ok (.string ⟨([c] ++ t).toArray⟩) W := fun W => run_string_add_lists W _ _ (by simp) (by omega)
      have hx0 : 0 ≤ (v : Int) % 10 := by omega
      have hx9 : (v : Int) % 10 ≤ 9 := by omega
      clear hb hm10
      go_wp2_with fail
      go_roundw
      case rel => exact ⟨v / 10, c :: t, (by rw [show ((v / 10 : Nat) : Int) = (v : Int) / 10 by omega]), by omega, rfl, hlen, hide (by rw [hd.out, HS.out, List.append_assoc]; rfl), ho.out.alloc _⟩
      case measure => simp [intOf]; omega
    · have h9' : ¬ (9 : Int) < v := by omega
      have hmod : v % 10 = v := by omega
      rw [hmod] at hb
      have hcv := fun W => conv_one (UInt8.ofNat (48 + v)) W
      have HV := hide (show Lib.decDigits u = UInt8.ofNat (48 + v) :: t by rw [hd.out, Lib.decDigits, dif_pos (by omega)]; rfl)
      rw [hb, show ((48 + v : Nat) : Int) = 48 + (v : Int) by omega] at hcv
      generalize UInt8.ofNat (48 + v) = c at *
      have hadd : ∀ W : World, (Op.stringOp .add ⟨[c].toArray⟩ ⟨t.toArray⟩).run Tryz.prog W = .ok (.string ⟨([c] ++ t).toArray⟩) W := fun W => run_string_add_lists W _ _ (by simp) (by omega)
      clear hb hm10 hmod
      go_wp2_with fail
      go_ret
      exact strpost HV.out (ho.out.alloc _)

theorem hexS_two (l : List UInt8) (k : Nat) (c : UInt8) (h : l[k]? = some c) : hexS (l.take (k + 1)) = hexS (l.take k) ++ [hd (c.toNat / 16), hd (c.toNat % 16)] := by
  rw [take_snoc_l l k c h, hexS_append]; rfl

set_option maxRecDepth 100000 in
set_option maxHeartbeats 6400000 in
theorem hex_ref (w : World) (N : List Nat) (v : Value) (l : List UInt8) (hv : Rd w N v (ints .u8 (byts l))) (hl : l.length ≤ 1000000) :
    Calls Tryz.prog 129 #[v] w (StrPost (hexS l) w) := by
  obtain ⟨A, cap, rfl, hcap, hmx⟩ := hv.formb
  have HV := hide hv
  obtain ⟨n, hn⟩ : ∃ n, n = l.length := ⟨_, rfl⟩
  have HN := hide hn
  rw [← hn] at hcap HV hl ⊢
  clear hv hn
  have HO := hide (Only.refl [] w)
  go_enter Tryz.func129, Tryz.ntmps129
  go_wp2_with fail
  go_loopw [3, 4] (fun s i wr => ∃ (k : Nat) (t : List UInt8), k ≤ n ∧ i = .int .i64 k ∧ s = .string ⟨t.toArray⟩ ∧ t.length ≤ 2 * k ∧ Hid (hexS (l.take k) = t) ∧ Hid (Only [] w wr)) (fun _ i _ => n - (intOf i).toNat)
  case atStart => exact ⟨0, [], Nat.zero_le _, rfl, rfl, by simp, hide rfl, HO⟩
  case round =>
    obtain ⟨k, t, hk, rfl, rfl, htl, ht, ho⟩ := hrel
    by_cases hlt : k < n
    · have hlt' : (k : Int) < n := by omega
      have hkl : k < l.length := by rw [← HN.out]; exact hlt
      obtain ⟨c, hc⟩ : ∃ c, l[k]? = some c := ⟨l[k], List.getElem?_eq_getElem hkl⟩
      have HT := hide (hexS_two l k c hc)
      obtain ⟨g, o, rfl, _, hg, hcell⟩ := HV.out.at_.2.2.2 k (.int .u8 (c.toNat : Int)) (ints_get (byts_get hc))
      have HCE := hide (show ∀ W, Only [] w W → W.cell? ⟨g, o + k, none⟩ = some (.int .u8 (c.toNat : Int)) from fun W h => (cell_only h hg (by simp)).trans hcell)
      have c1 := HCE.out _ ho.out
      have hc256 := c.toNat_lt
      have hcI : (c.toNat : Int) < 256 := by omega
      have HA := hide (fun W => digit_any (c.toNat / 16) (by omega) W)
      have HB := hide (fun W => digit_any (c.toNat % 16) (by omega) W)
      rw [show ((c.toNat / 16 : Nat) : Int) = (c.toNat : Int) / 16 by omega] at HA
      rw [show ((c.toNat % 16 : Nat) : Int) = (c.toNat : Int) % 16 by omega] at HB
      have hq : IntKind.u8.wrap ((c.toNat : Int) / 16) = (c.toNat : Int) / 16 := by rw [IntKind.wrap_u8]; omega
      have hm16 : ((c.toNat : Int)).tmod 16 = (c.toNat : Int) % 16 := Int.tmod_eq_emod_of_nonneg (by omega)
      have hcv := fun W => conv_two (hd (c.toNat / 16)) (hd (c.toNat % 16)) W
      have hcv2 := fun W => conv_two_drew (hd (c.toNat / 16)) (hd (c.toNat % 16)) W
      generalize hd (c.toNat / 16) = x at *
      generalize hd (c.toNat % 16) = y at *
      have hadd : ∀ W : World, (Op.stringOp .add ⟨t.toArray⟩ ⟨[x, y].toArray⟩).run Tryz.prog W = .ok (.string ⟨(t ++ [x, y]).toArray⟩) W := fun W => run_string_add_lists W _ _ (by omega) (by simp)
      have HO2 := hide ((ho.out.alloc (.cells #[.int .u8 (x.toNat : Int), .int .u8 (y.toNat : Int)] 5)).drew)
      have c2 := HCE.out _ HO2.out
      clear hc hcell
      go_upto_region 5 with (fail)
      go_region_with (first
        | (go_at_call 142; (with_reducible refine (HA.out _).mono ?_); rintro e w' ⟨rfl, rfl⟩)
        | (go_at_call 142; (with_reducible refine (HB.out _).mono ?_); rintro e w' ⟨rfl, rfl⟩))
      all_goals
        go_wp2_with fail
        go_roundw
        case rel => exact ⟨k + 1, t ++ [x, y], by omega, (by go_num), rfl, (by simp; omega), hide (by rw [HT.out, ht.out]), hide (by first | exact HO2.out | exact HO2.out.drew)⟩
        case measure => simp [intOf]; omega
    · obtain rfl : k = n := by omega
      have hge : ¬ (k : Int) < k := by omega
      have HV2 := hide (show hexS l = t by rw [← ht.out, List.take_of_length_le (Nat.le_of_eq HN.out.symm)])
      go_wp2_with fail
      go_ret
      exact strpost HV2.out ho.out
end
section
open Go.RowKit Go.Deep

def NumRPost' (r : Nat × Nat) (w : World) (e : Ending) (w' : World) : Prop := e = .returned (.tuple #[.int .u64 r.1, .int .i64 r.2]) ∧ w = w'
theorem numr' {a b : Nat} {r : Nat × Nat} {w : World} (h : r = (a, b)) : NumRPost' r w (.returned (.tuple #[.int .u64 a, .int .i64 b])) w := by
  subst h; exact ⟨rfl, rfl⟩

set_option maxRecDepth 100000 in
set_option maxHeartbeats 6400000 in
theorem read_ref (w : World) (s : ByteArray) (hs : s.size ≤ 1000000) : Calls Tryz.prog 126 #[.string s] w (NumRPost' (numR s.data.toList) w) := by
  by_cases h0 : s.size = 0
  · have HR := hide (numR_empty s h0)
    have hb : ((s.size : Int) == 0) = true := by rw [beq_iff_eq]; omega
    have hb1 : (s.size == 0) = true := by simpa using h0
    clear h0
    go_enter Tryz.func126, Tryz.ntmps126
    go_wp2_with fail
    go_ret2
    exact numr' HR.out
  have hpos : 0 < s.size := by omega
  have hb : ((s.size : Int) == 0) = false := by rw [beq_eq_false_iff_ne]; omega
  have hb1 : (s.size == 0) = false := by simpa using h0
  by_cases hlead : s[0].toNat = 48 ∧ 1 < s.size
  · have HR := hide (numR_lead s hlead.2 hlead.1)
    obtain ⟨h1, h2⟩ := hlead
    have h2' : (1 : Int) < s.size := by omega
    have h1' : ((s[0].toNat : Int) == 48) = true := by rw [beq_iff_eq]; omega
    clear h0 h1
    go_enter Tryz.func126, Tryz.ntmps126
    go_wp2_with fail
    go_ret2
    exact numr' HR.out
  have HLE := hide hlead
  have hcs : (¬ (1 : Int) < s.size) ∨ ((1 : Int) < s.size ∧ ((s[0].toNat : Int) == 48) = false) := by
    by_cases h2 : 1 < s.size
    · refine .inr ⟨by omega, ?_⟩
      rw [beq_eq_false_iff_ne]
      intro h
      exact hlead ⟨by omega, h2⟩
    · exact .inl (by omega)
  clear h0 hlead
  rcases hcs with h2 | ⟨h2, h1⟩
  all_goals
    go_enter Tryz.func126, Tryz.ntmps126
    go_wp2_with fail
    go_loop [4] (fun i => ∃ k : Nat, k ≤ s.size ∧ i = .int .i64 k ∧ Hid (Digs s k)) (fun i => s.size - (intOf i).toNat)
    case atStart => exact ⟨0, Nat.zero_le _, rfl, hide (fun i _ h => by omega)⟩
    case round =>
      obtain ⟨k, hk, rfl, hdg⟩ := hrel
      by_cases hlt : k < s.size
      · have hltI : (k : Int) < s.size := by omega
        cases hd : digB s[k] with
        | true =>
          have hc1 : (48 : Int) ≤ s[k].toNat := by simp [digB] at hd; omega
          have hc2 : (s[k].toNat : Int) ≤ 57 := by simp [digB] at hd; omega
          have HS := hide (digs_succ hdg.out hlt hd)
          clear hd
          go_wp2_with fail
          go_round
          case rel => exact ⟨k + 1, by omega, by go_num, HS⟩
          case measure => simp [intOf]; omega
        | false =>
          have HR := hide (numR_bad s k hlt hd)
          have hb : (s[k].toNat : Int) < 48 ∨ (57 : Int) < s[k].toNat ∧ ¬ (s[k].toNat : Int) < 48 := by simp [digB] at hd; omega
          clear hd
          rcases hb with hb | ⟨hb, hb2⟩
          all_goals
            go_wp2_with fail
            go_ret2
            exact numr' HR.out
      · obtain rfl : k = s.size := by omega
        have hge : ¬ (s.size : Int) < s.size := by omega
        have HALL := hide hdg.out
        have HGO := hide (numR_go s hpos (all_true s.data.toList fun i hi => hdg.out i (by simpa using hi) (by simpa using hi)) HLE.out)
        clear hdg
        go_wp2_with fail
        go_loop [5, 6] (fun x i => ∃ u k : Nat, k ≤ s.size ∧ x = .int .u64 u ∧ u < 18446744073709551616 ∧ i = .int .i64 k ∧ Hid (accN (s.data.toList.drop k) u = accN s.data.toList 0)) (fun _ i => s.size - (intOf i).toNat)
        case atStart => exact ⟨0, 0, Nat.zero_le _, rfl, by omega, rfl, hide rfl⟩
        case round =>
          obtain ⟨u, k, hk, rfl, hu, rfl, hacc⟩ := hrel
          by_cases hlt : k < s.size
          · have hltI : (k : Int) < s.size := by omega
            have HDR := hide (drop_at s k hlt)
            have HC := HALL.out k hlt hlt
            have hc1 : 48 ≤ s[k].toNat := by simp [digB] at HC; omega
            have hc2 : s[k].toNat ≤ 57 := by simp [digB] at HC; omega
            have hc1' : (48 : Int) ≤ s[k].toNat := by omega
            have hc2' : (s[k].toNat : Int) ≤ 57 := by omega
            clear HC
            by_cases hov : 1844674407370955161 < u ∨ (u = 1844674407370955161 ∧ 5 < s[k].toNat - 48)
            · have HR := hide (show numR s.data.toList = (0, 5) from by rw [HGO.out, ← hacc.out, HDR.out, accN, if_pos hov])
              have ht : (18446744073709551615 - ((s[k].toNat : Int) - 48)) / 10 < (u : Int) := by omega
              clear hov
              go_wp2_with fail
              go_ret2
              exact numr' HR.out
            · have HN := hide (show accN (s.data.toList.drop (k + 1)) (u * 10 + (s[k].toNat - 48)) = accN s.data.toList 0 from by rw [← hacc.out, HDR.out, accN, if_neg hov])
              have ht : ¬ (18446744073709551615 - ((s[k].toNat : Int) - 48)) / 10 < (u : Int) := by omega
              have hlim : u * 10 + (s[k].toNat - 48) < 18446744073709551616 := by omega
              clear hov
              go_wp2_with fail
              go_round
              case rel => exact ⟨u * 10 + (s[k].toNat - 48), k + 1, by omega, congrArg (Value.int .u64) (by omega), hlim, (by go_num), HN⟩
              case measure => simp [intOf]; omega
          · obtain rfl : k = s.size := by omega
            have hge : ¬ (s.size : Int) < s.size := by omega
            have HR := hide (show numR s.data.toList = (u, 0) from by rw [HGO.out, ← hacc.out, show List.drop s.size s.data.toList = [] from List.drop_of_length_le (Nat.le_of_eq rfl)]; rfl)
            go_wp2_with fail
            go_ret2
            exact numr' HR.out
end
section
open Go.RowKit Go.Deep

def valV (c : UInt8) : Nat := if hexB c = true then nib c else 16
theorem hd_eq (n : Nat) (h : n < 16) (c : UInt8) : (hd n).toNat = c.toNat ↔ (hexB c = true ∧ nib c = n) := by
  rw [hd_nat n h]
  have hc := c.toNat_lt
  unfold hexB nib signV
  by_cases h1 : n < 10
  · rw [if_pos h1]
    constructor
    · intro e
      rw [if_pos (by omega)]
      exact ⟨by simp; omega, by omega⟩
    · rintro ⟨a, b⟩
      split at b
      · omega
      · split at b <;> rename_i h2 h3
        · omega
        · simp only [h2, h3, if_false] at a
          simp at a
  · rw [if_neg h1]
    constructor
    · intro e
      rw [if_neg (by omega), if_pos (by omega)]
      exact ⟨by simp; omega, by omega⟩
    · rintro ⟨a, b⟩
      split at b
      · omega
      · split at b <;> rename_i h2 h3
        · omega
        · omega

set_option maxHeartbeats 3200000 in
theorem value_any (c : UInt8) (w : World) : Calls Tryz.prog 165 #[.int .u8 (c.toNat : Int)] w fun e w' => e = .returned (.int .u8 (valV c : Nat)) ∧ w = w' := by
  go_enter Tryz.func165, Tryz.ntmps165
  go_wp2_with fail
  go_loop [3] (fun i => ∃ k : Nat, k ≤ 16 ∧ i = .int .u8 k ∧ Hid (∀ m, m < k → (hd m).toNat ≠ c.toNat)) (fun i => 16 - (intOf i).toNat)
  case atStart => exact ⟨0, by omega, rfl, hide (fun m h => by omega)⟩
  case round =>
    obtain ⟨k, hk, rfl, hne⟩ := hrel
    by_cases hlt : k < 16
    · have hlt' : (k : Int) < 16 := by omega
      have HD := hide (fun W => digit_any k hlt W)
      by_cases he : (hd k).toNat = c.toNat
      · have HV := hide (show valV c = k by
          have := (hd_eq k hlt c).1 he
          unfold valV; rw [if_pos this.1]; exact this.2)
        have heb : (((hd k).toNat : Int) == (c.toNat : Int)) = true := by rw [beq_iff_eq]; omega
        have heb2 : ((hd k).toNat == c.toNat) = true := by simpa using he
        clear he
        generalize (hd k).toNat = y at *
        go_wp2_with (go_at_call 142; refine (HD.out _).mono ?_; rintro e w' ⟨rfl, rfl⟩)
        go_ret
        exact ⟨ret_i (by rw [HV.out]), rfl⟩
      · have heb : (((hd k).toNat : Int) == (c.toNat : Int)) = false := by rw [beq_eq_false_iff_ne]; omega
        have heb2 : ((hd k).toNat == c.toNat) = false := by simpa using he
        have HN := hide (show ∀ m, m < k + 1 → (hd m).toNat ≠ c.toNat from fun m hm => by
          by_cases e : m = k
          · subst e; exact he
          · exact hne.out m (by omega))
        clear he
        generalize (hd k).toNat = y at heb heb2 HD
        go_wp2_with (go_at_call 142; refine (HD.out _).mono ?_; rintro e w' ⟨rfl, rfl⟩)
        go_round
        case rel => exact ⟨k + 1, by omega, by go_num, HN⟩
        case measure => simp [intOf]; omega
    · obtain rfl : k = 16 := by omega
      have HV := hide (show valV c = 16 by
        unfold valV
        split
        · rename_i hx
          exact absurd ((hd_eq (nib c) (nib_lt c) c).2 ⟨hx, rfl⟩) (hne.out _ (nib_lt c))
        · rfl)
      go_wp2_with fail
      go_ret
      exact ⟨ret_i (by rw [HV.out]; rfl), rfl⟩
end
section
open Go.RowKit Go.Deep

theorem valV_hex {c : UInt8} (h : hexB c = true) : valV c = nib c := by unfold valV; rw [if_pos h]
theorem valV_bad {c : UInt8} (h : hexB c = false) : valV c = 16 := by unfold valV; rw [if_neg (by rw [h]; exact Bool.false_ne_true)]

set_option maxRecDepth 100000 in
set_option maxHeartbeats 6400000 in
theorem readhex_ref (w : World) (s : ByteArray) (hs : s.size ≤ 1000000) :
    Calls Tryz.prog 141 #[.string s] w (BytsPost (hexR s.data.toList) w) := by
  obtain ⟨i0, hi, hz0, hz1, hz2⟩ := info_parts (show (Tryz.prog.info? 5).map (fun i => (i.zero, i.size, i.bytes)) = some (some (.int .u8 0), 1, 1) by kernel_rfl)
  go_enter Tryz.func141, Tryz.ntmps141
  go_wp2_with fail
  go_loop [4] (fun i => ∃ k : Nat, k ≤ s.size ∧ i = .int .i64 k ∧ Hid (Hexs s k)) (fun i => s.size - (intOf i).toNat)
  case atStart => exact ⟨0, Nat.zero_le _, rfl, hide (fun i _ h => by omega)⟩
  case round =>
    obtain ⟨k, hk, rfl, hdg⟩ := hrel
    by_cases hlt : k < s.size
    · have hltI : (k : Int) < s.size := by omega
      cases hd : hexB s[k] with
      | true =>
        have HS := hide (hexs_succ hdg.out hlt hd)
        have hx := nib_lt s[k]
        have hv := valV_hex hd
        clear hd
        generalize nib s[k] = x at *
        have hne : ((x : Int) == 16) = false := by rw [beq_eq_false_iff_ne]; omega
        have hne2 : (x == 16) = false := by rw [beq_eq_false_iff_ne]; omega
        go_wp2_with (go_at_call 165; refine (value_any _ _).mono ?_; rintro e w' ⟨rfl, rfl⟩; rw [hv])
        go_round
        case rel => exact ⟨k + 1, by omega, by go_num, HS⟩
        case measure => simp [intOf]; omega
      | false =>
        have HR := hide (hexR_bad s k hlt hd)
        have hv := valV_bad hd
        clear hd
        go_wp2_with (go_at_call 165; refine (value_any _ _).mono ?_; rintro e w' ⟨rfl, rfl⟩; rw [hv])
        go_ret2
        exact byts_nil HR.out (Only.refl _ _)
    · obtain rfl : k = s.size := by omega
      have hge0 : ¬ (s.size : Int) < s.size := by omega
      have HX := hide hdg.out
      by_cases hodd : s.size % 2 = 1
      · have HR := hide (hexR_odd hdg.out hodd)
        have ho2 : (((s.size : Int) % 2) == 1) = true := by rw [beq_iff_eq]; omega
        have ho3 : (((s.size : Int).tmod 2) == 1) = true := by rw [Int.tmod_eq_emod_of_nonneg (by omega)]; exact ho2
        clear hodd
        go_wp2_with fail
        go_ret2
        exact byts_nil HR.out (Only.refl _ _)
      · have HR := hide (hexR_even hdg.out (by omega))
        have ho2 : (((s.size : Int) % 2) == 1) = false := by rw [beq_eq_false_iff_ne]; omega
        have ho3 : (((s.size : Int).tmod 2) == 1) = false := by rw [Int.tmod_eq_emod_of_nonneg (by omega)]; exact ho2
        have HEV := hide (show s.size % 2 = 0 by omega)
        have HOW := hide (World.ownsRow_lit (base := w.heap.size) w #[] 0 (Nat.le_refl _) (by unfold maxLen; omega) (e := 5) (size := 1) (by simp))
        have HO := hide ((Only.refl [] w).alloc (.cells #[] 5))
        clear hodd
        go_wp2_with fail
        obtain ⟨w0, hw0⟩ : ∃ w0, w0 = w.alloc (.cells #[] 5) := ⟨_, rfl⟩
        rw [← hw0] at HOW HO ⊢
        clear hw0 ho2 ho3
        go_loopw [5, 6] (fun v i wr => ∃ j k : Nat, k ≤ s.size ∧ Hid (k = 2 * j) ∧ i = .int .i64 k ∧ Hid (wr.ownsRow w.heap.size 5 1 v j (ints .u8 (byts (hexP (s.data.toList.take k))))) ∧ Hid (Only [] w wr)) (fun _ i _ => s.size - (intOf i).toNat)
        case atStart => exact ⟨0, 0, Nat.zero_le _, hide rfl, rfl, HOW, HO⟩
        case round =>
          obtain ⟨j, k, hk, hkj, rfl, how, ho⟩ := hrel
          by_cases hlt : k < s.size
          · have hlt1 : k + 1 < s.size := by have := hkj.out; have := HEV.out; omega
            have hltI : (k : Int) < s.size := by omega
            have hlt1I : (k : Int) + 1 < s.size := by omega
            have hw1 : IntKind.i64.wrap ((k : Int) + 1) = (k : Int) + 1 := IntWalk.i64_in _ (by omega)
            have h0 : (0 : Int) ≤ (k : Int) + 1 := by omega
            have ht : ((k : Int) + 1).toNat = k + 1 := by omega
            have hx := valV_hex (HX.out k hlt hlt)
            have hy := valV_hex (HX.out (k + 1) hlt1 hlt1)
            obtain ⟨x, hxx⟩ : ∃ x, x = nib s[k] := ⟨_, rfl⟩
            obtain ⟨y, hyy⟩ : ∃ y, y = nib s[k + 1] := ⟨_, rfl⟩
            obtain ⟨z, hzz⟩ : ∃ z, z = 16 * x + y := ⟨_, rfl⟩
            have hx16 : x < 16 := by rw [hxx]; exact nib_lt _
            have hy16 : y < 16 := by rw [hyy]; exact nib_lt _
            have HZ := hide (show z = 16 * nib s[k] + nib s[k + 1] by rw [hzz, hxx, hyy])
            rw [← hxx] at hx
            rw [← hyy] at hy
            have hwm : IntKind.u8.wrap (16 * (x : Int)) = 16 * (x : Int) := by rw [IntKind.wrap_u8]; omega
            have hwu : IntKind.u8.wrap (16 * (x : Int) + (y : Int)) = (z : Int) := by rw [IntKind.wrap_u8]; omega
            obtain ⟨Av, cv, rfl, hjc, hcm⟩ := own_form how.out
            have hj : j < 1000000 := by have := hkj.out; omega
            clear hxx hyy hzz
            have HOW2 := hide (World.ownsRow.alloc (own_only how.out ((Only.refl [] wr).drew) (by simp)) (.cells #[.int .u8 (z : Int)] 5))
            have HO2 := hide (ho.out.drew.alloc (.cells #[.int .u8 (z : Int)] 5))
            have HRN := hide (reads_one wr.drew 5 (.int .u8 (z : Int)) (wr.heap.size + 1) (Nat.lt_succ_self _))
            have HSZ := hide ho.out.size
            have HSZ0 := hide HO.out.size
            go_upto_region 12 with (fail)
            go_region_held3 (fun _ => True) (exact trivial)
              (first
              | (go_at_call 165; refine (value_any _ _).mono ?_; rintro e w' ⟨rfl, rfl⟩; first | rw [hx] | rw [hy])
              | (refine step_append_any _ rfl (.tmp 29) (.tmp 41) 55 rfl w.heap.size 5 i0 (.int .u8 0) 1 1 Tryz.underlying55 hi hz0 hz1 hz2 rfl (by decide) _ j _ rfl HOW2.out _ _ 1 1 [.int .u8 (z : Int)] rfl HRN.out (by simp [Value.oneCell']) (by unfold maxLen; omega) (by omega) (by have := HSZ.out; simp; omega) ?_; intro v1 w3 hown1 hg1 _; have HOW3 := hide (one_hex hown1 hkj.out hlt1 HZ.out); have HO3 := hide (HO2.out.grown hg1 (fun j hj => .inr (own_block_ge HOW2.out hj))); clear hown1 hg1))
            all_goals
              go_wp2_with fail
              go_roundw
              case rel => exact ⟨j + 1, k + 2, by omega, hide (by have := hkj.out; omega), by go_num, HOW3, HO3⟩
              case measure => simp [intOf]; omega
          · obtain rfl : k = s.size := by omega
            have hge : ¬ (s.size : Int) < s.size := by omega
            have HRD := hide (rd_whole how.out)
            go_wp2_with fail
            go_ret2
            exact byts_some HR.out ho.out HRD.out
end
section
open Go.RowKit Go.Deep

def delR (c : UInt8) : Bool := c == 44 || c == 41
/-- The end of the reference's word that begins at p. -/
def wendR (s : ByteArray) (p : Nat) : Nat := p + ((s.data.toList.drop p).takeWhile fun c => !delR c).length
theorem wendR_end (s : ByteArray) (p : Nat) (h : s.size ≤ p) : wendR s p = p := by
  unfold wendR; rw [List.drop_of_length_le (by simpa using h)]; simp
theorem wendR_stop (s : ByteArray) (p : Nat) (h : p < s.size) (hd : delR s[p] = true) : wendR s p = p := by
  unfold wendR; rw [drop_at s p h]; simp [hd]
theorem wendR_step (s : ByteArray) (p : Nat) (h : p < s.size) (hd : delR s[p] = false) : wendR s (p + 1) = wendR s p := by
  unfold wendR; rw [drop_at s p h]; simp [hd]; omega
theorem wendR_ge (s : ByteArray) (p : Nat) : p ≤ wendR s p := Nat.le_add_right _ _
theorem wendR_le (s : ByteArray) (p : Nat) (h : p ≤ s.size) : wendR s p ≤ s.size := by
  unfold wendR
  have h1 : ((s.data.toList.drop p).takeWhile fun c => !delR c).length ≤ (s.data.toList.drop p).length := (List.takeWhile_sublist _).length_le
  have h2 : (s.data.toList.drop p).length = s.size - p := by rw [List.length_drop]; rfl
  omega
theorem delR_false {c : UInt8} (h : delR c = false) : ((c.toNat : Int) != 44) = true ∧ ((c.toNat : Int) != 41) = true := by
  unfold delR at h
  simp only [Bool.or_eq_false_iff] at h
  exact ⟨ne_of_nat (n := 44) h.1 (by decide), ne_of_nat (n := 41) h.2 (by decide)⟩
theorem delR_true {c : UInt8} (h : delR c = true) : ((c.toNat : Int) != 44) = false ∨ (((c.toNat : Int) != 44) = true ∧ ((c.toNat : Int) != 41) = false) := by
  unfold delR at h
  simp only [Bool.or_eq_true, beq_iff_eq] at h
  rcases h with h | h
  · subst h; exact .inl rfl
  · subst h; exact .inr ⟨rfl, rfl⟩
def WordRPost (s : ByteArray) (p : Nat) (w : World) (e : Ending) (w' : World) : Prop := e = .returned (.tuple #[.string (s.extract p (wendR s p)), .int .i64 (wendR s p : Nat)]) ∧ w = w'
theorem wordr_end {s : ByteArray} {p j : Nat} {w : World} (h : wendR s p = j) : WordRPost s p w (.returned (.tuple #[.string (s.extract p j), .int .i64 (j : Nat)])) w := by
  subst h; exact ⟨rfl, rfl⟩

set_option maxRecDepth 100000 in
set_option maxHeartbeats 3200000 in
theorem wordr_any (w : World) (s : ByteArray) (p : Nat) (hp : p ≤ s.size) (hs : s.size ≤ maxLen) : Calls Tryz.prog 125 #[.string s, .int .i64 p] w (WordRPost s p w) := by
  unfold maxLen at hs
  go_enter Tryz.func125, Tryz.ntmps125
  go_wp2_with fail
  go_loop [1] (fun i => ∃ j : Nat, p ≤ j ∧ j ≤ s.size ∧ i = .int .i64 j ∧ Hid (wendR s j = wendR s p)) (fun i => s.size - (intOf i).toNat)
  case atStart => exact ⟨p, Nat.le_refl _, hp, rfl, hide rfl⟩
  case round =>
    obtain ⟨j, hpj, hj, rfl, hw⟩ := hrel
    by_cases hlt : j < s.size
    · have hltI : (j : Int) < s.size := by omega
      have hd : decide (j < s.size) = true := decide_eq_true hlt
      cases hc : delR s[j] with
      | false =>
        have HS := hide (wendR_step s j hlt hc)
        obtain ⟨h1, h2⟩ := delR_false hc
        clear hc
        go_wp2_with fail
        go_round
        case rel => exact ⟨j + 1, by omega, by omega, by go_num, hide (HS.out.trans hw.out)⟩
        case measure => simp [intOf]; omega
      | true =>
        have HS := hide ((wendR_stop s j hlt hc).symm.trans hw.out).symm
        have hpI : (p : Int) ≤ j := by omega
        rcases delR_true hc with h1 | ⟨h1, h2⟩
        all_goals
          clear hc
          go_wp2_with fail
          go_ret2
          exact wordr_end HS.out
    · obtain rfl : j = s.size := by omega
      have hge : ¬ (s.size : Int) < s.size := by omega
      have HS := hide ((wendR_end s s.size (Nat.le_refl _)).symm.trans hw.out).symm
      have hpI : (p : Int) ≤ s.size := by omega
      go_wp2_with fail
      go_ret2
      exact wordr_end HS.out

/-- The byte at a place, 0 behind the end. -/
def atV (s : ByteArray) (p : Nat) : Nat := if h : p < s.size then s[p].toNat else 0
theorem atr_any (w : World) (s : ByteArray) (p : Nat) (_hs : s.size ≤ maxLen) : Calls Tryz.prog 123 #[.string s, .int .i64 p] w fun e w' => e = .returned (.int .u8 (atV s p : Nat)) ∧ w = w' := by
  unfold maxLen at _hs
  by_cases hlt : p < s.size
  · have hltI : ¬ (s.size : Int) ≤ p := by omega
    have hd : decide (p < s.size) = true := decide_eq_true hlt
    have HV := hide (show atV s p = s[p].toNat by unfold atV; rw [dif_pos hlt])
    go_enter Tryz.func123, Tryz.ntmps123
    go_wp2
    go_ret
    exact ⟨by rw [HV.out]; rfl, rfl⟩
  · have hge : (s.size : Int) ≤ p := by omega
    have HV := hide (show atV s p = 0 by unfold atV; rw [dif_neg hlt])
    go_enter Tryz.func123, Tryz.ntmps123
    go_wp2
    go_ret
    exact ⟨by rw [HV.out]; rfl, rfl⟩

theorem letters_at (W : World) : (∀ k : Nat, k < 11 → (Instr.index 9 (.string ⟨#[48, 97, 110, 120, 112, 100, 104, 107, 109, 115, 108]⟩) (.int .i64 (k : Int))).run Tryz.prog W = .ok (.int .u8 (([48, 97, 110, 120, 112, 100, 104, 107, 109, 115, 108] : List Int).getD k 0)) W) := by
  intro k hk
  rcases (show k = 0 ∨ k = 1 ∨ k = 2 ∨ k = 3 ∨ k = 4 ∨ k = 5 ∨ k = 6 ∨ k = 7 ∨ k = 8 ∨ k = 9 ∨ k = 10 by omega) with rfl | rfl | rfl | rfl | rfl | rfl | rfl | rfl | rfl | rfl | rfl
  all_goals kernel_rfl
def lettV (k : Nat) : Int := ([48, 97, 110, 120, 112, 100, 104, 107, 109, 115, 108] : List Int).getD k 0
theorem kind_hit : ∀ k, k < 11 → ∀ c : Int, lettV k = c → kindV c = (k : Int) + 1 := by
  intro k hk c hc
  subst hc
  rcases (show k = 0 ∨ k = 1 ∨ k = 2 ∨ k = 3 ∨ k = 4 ∨ k = 5 ∨ k = 6 ∨ k = 7 ∨ k = 8 ∨ k = 9 ∨ k = 10 by omega) with rfl | rfl | rfl | rfl | rfl | rfl | rfl | rfl | rfl | rfl | rfl
  all_goals decide
theorem kind_miss (c : Int) (h : ∀ k, k < 11 → lettV k ≠ c) : kindV c = 0 := by
  have h0 := h 0 (by omega); have h1 := h 1 (by omega); have h2 := h 2 (by omega); have h3 := h 3 (by omega); have h4 := h 4 (by omega); have h5 := h 5 (by omega)
  have h6 := h 6 (by omega); have h7 := h 7 (by omega); have h8 := h 8 (by omega); have h9 := h 9 (by omega); have h10 := h 10 (by omega)
  simp [lettV] at h0 h1 h2 h3 h4 h5 h6 h7 h8 h9 h10
  unfold kindV
  rw [if_neg (Ne.symm h0), if_neg (Ne.symm h1), if_neg (Ne.symm h2), if_neg (Ne.symm h3), if_neg (Ne.symm h4), if_neg (Ne.symm h5), if_neg (Ne.symm h6), if_neg (Ne.symm h7), if_neg (Ne.symm h8), if_neg (Ne.symm h9), if_neg (Ne.symm h10)]

set_option maxRecDepth 100000 in
set_option maxHeartbeats 3200000 in
theorem kindr_any (c : Int) (w : World) : Calls Tryz.prog 122 #[.int .u8 c] w fun e w' => e = .returned (.int .i64 (kindV c)) ∧ w = w' := by
  go_enter Tryz.func122, Tryz.ntmps122
  go_wp2_with fail
  go_loop [3] (fun i => ∃ k : Nat, k ≤ 11 ∧ i = .int .i64 k ∧ Hid (∀ j, j < k → lettV j ≠ c)) (fun i => 11 - (intOf i).toNat)
  case atStart => exact ⟨0, by omega, rfl, hide (fun j hj => by omega)⟩
  case round =>
    obtain ⟨k, hk, rfl, hm⟩ := hrel
    by_cases hlt : k < 11
    · have hltI : (k : Int) < 11 := by omega
      have HI := hide (fun W => letters_at W k hlt)
      have hix : ∀ W, (Instr.index 9 (.string ⟨#[48, 97, 110, 120, 112, 100, 104, 107, 109, 115, 108]⟩) (.int .i64 (k : Int))).run Tryz.prog W = .ok (.int .u8 (lettV k)) W := HI.out
      by_cases he : lettV k = c
      · have e1 : (lettV k == c) = true := by rw [beq_iff_eq]; exact he
        have HV := hide (kind_hit k hlt c he)
        clear he
        go_wp2_with fail
        go_ret
        exact ⟨by rw [HV.out]; rfl, rfl⟩
      · have e1 : (lettV k == c) = false := by rw [beq_eq_false_iff_ne]; exact he
        have HE := hide he
        clear he
        go_wp2_with fail
        go_round
        case rel => exact ⟨k + 1, by omega, by go_num, hide (fun j hj => by
          by_cases hjk : j = k
          · subst hjk; exact HE.out
          · exact hm.out j (by omega))⟩
        case measure => simp [intOf]; omega
    · obtain rfl : k = 11 := by omega
      have HV := hide (kind_miss c hm.out)
      go_wp2_with fail
      go_ret
      exact ⟨by rw [HV.out]; rfl, rfl⟩

/-- May a kind have so many parts? (kinds from 5 on) -/
def rightR (k n : Int) : Bool := if k = 5 then decide (n = 1) else if k = 6 ∨ k = 8 ∨ k = 9 then decide (n = 2) else if k = 7 then decide (1 ≤ n) else if k = 10 then decide (n = 3) else true
set_option maxHeartbeats 3200000 in
theorem rightr_any (k n : Int) (w : World) : Calls Tryz.prog 127 #[.int .i64 k, .int .i64 n] w fun e w' => e = .returned (.bool (rightR k n)) ∧ w = w' := by
  have d1 : (n == 1) = decide (n = 1) := rfl
  have d2 : (n == 2) = decide (n = 2) := rfl
  have d3 : (n == 3) = decide (n = 3) := rfl
  by_cases h5 : k = 5
  · subst h5
    have HV := hide (show rightR 5 n = decide (n = 1) from rfl)
    go_enter Tryz.func127, Tryz.ntmps127
    go_wp2
    go_ret
    exact ⟨by rw [HV.out]; rfl, rfl⟩
  have e5 : (k == 5) = false := by rw [beq_eq_false_iff_ne]; exact h5
  by_cases h6 : k = 6
  · subst h6
    have HV := hide (show rightR 6 n = decide (n = 2) from rfl)
    go_enter Tryz.func127, Tryz.ntmps127
    go_wp2
    go_ret
    exact ⟨by rw [HV.out]; rfl, rfl⟩
  have e6 : (k == 6) = false := by rw [beq_eq_false_iff_ne]; exact h6
  by_cases h8 : k = 8
  · subst h8
    have HV := hide (show rightR 8 n = decide (n = 2) from rfl)
    go_enter Tryz.func127, Tryz.ntmps127
    go_wp2
    go_ret
    exact ⟨by rw [HV.out]; rfl, rfl⟩
  have e8 : (k == 8) = false := by rw [beq_eq_false_iff_ne]; exact h8
  by_cases h9 : k = 9
  · subst h9
    have HV := hide (show rightR 9 n = decide (n = 2) from rfl)
    go_enter Tryz.func127, Tryz.ntmps127
    go_wp2
    go_ret
    exact ⟨by rw [HV.out]; rfl, rfl⟩
  have e9 : (k == 9) = false := by rw [beq_eq_false_iff_ne]; exact h9
  by_cases h7 : k = 7
  · subst h7
    have HV := hide (show rightR 7 n = decide (1 ≤ n) from rfl)
    go_enter Tryz.func127, Tryz.ntmps127
    go_wp2
    go_ret
    exact ⟨by rw [HV.out]; rfl, rfl⟩
  have e7 : (k == 7) = false := by rw [beq_eq_false_iff_ne]; exact h7
  by_cases h10 : k = 10
  · subst h10
    have HV := hide (show rightR 10 n = decide (n = 3) from rfl)
    go_enter Tryz.func127, Tryz.ntmps127
    go_wp2
    go_ret
    exact ⟨by rw [HV.out]; rfl, rfl⟩
  have e10 : (k == 10) = false := by rw [beq_eq_false_iff_ne]; exact h10
  have HV := hide (show rightR k n = true by unfold rightR; rw [if_neg h5, if_neg (by rintro (h | h | h) <;> contradiction), if_neg h7, if_neg h10])
  clear h5 h6 h7 h8 h9 h10
  go_enter Tryz.func127, Tryz.ntmps127
  go_wp2
  go_ret
  exact ⟨by rw [HV.out]; rfl, rfl⟩
end
end Go.Proofs.YtfipdjlalfpbnaaGreatDoor

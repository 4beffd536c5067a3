/-
  Walks and plain words (texts Nr2, Nr3, Nr4, Nl, Rfi). No condition beyond those that each theorem states.
-/
import Derived.Test.YthecnaclfhfilaaDoorA09
namespace Go.Proofs.YthecnaclfhfilaaDoor
section
open Go.RowKit Go.Deep

def NumRPost' (r : Nat × Nat) (w : World) (e : Ending) (w' : World) : Prop := e = .returned (.tuple #[.int .u64 r.1, .int .i64 r.2]) ∧ w = w'
theorem numr' {a b : Nat} {r : Nat × Nat} {w : World} (h : r = (a, b)) : NumRPost' r w (.returned (.tuple #[.int .u64 a, .int .i64 b])) w := by
  subst h; exact ⟨rfl, rfl⟩

set_option maxRecDepth 100000 in
set_option maxHeartbeats 6400000 in
theorem read_ref (w : World) (s : ByteArray) (hs : s.size ≤ 1000000) : Calls Tryd.prog 24 #[.string s] w (NumRPost' (numR s.data.toList) w) := by
  by_cases h0 : s.size = 0
  · have HR := hide (numR_empty s h0)
    have hb : ((s.size : Int) == 0) = true := by rw [beq_iff_eq]; omega
    have hb1 : (s.size == 0) = true := by simpa using h0
    clear h0
    go_enter Tryd.func24, Tryd.ntmps24
    go_wp2_with fail
    go_ret2
    exact numr' HR.out
  have hpos : 0 < s.size := by omega
  have hb : ((s.size : Int) == 0) = false := by rw [beq_eq_false_iff_ne]; omega
  have hb1 : (s.size == 0) = false := by simpa using h0
  by_cases hlead : s[0].toNat = 48 ∧ 1 < s.size
  · have HR := hide (numR_lead s hlead.2 hlead.1)
    obtain ⟨h1, h2⟩ := hlead
    have h2' : (1 : Int) < s.size := by omega
    have h1' : ((s[0].toNat : Int) == 48) = true := by rw [beq_iff_eq]; omega
    clear h0 h1
    go_enter Tryd.func24, Tryd.ntmps24
    go_wp2_with fail
    go_ret2
    exact numr' HR.out
  have HLE := hide hlead
  have hcs : (¬ (1 : Int) < s.size) ∨ ((1 : Int) < s.size ∧ ((s[0].toNat : Int) == 48) = false) := by
    by_cases h2 : 1 < s.size
    · refine .inr ⟨by omega, ?_⟩
      rw [beq_eq_false_iff_ne]
      intro h
      exact hlead ⟨by omega, h2⟩
    · exact .inl (by omega)
  clear h0 hlead
  rcases hcs with h2 | ⟨h2, h1⟩
  all_goals
    go_enter Tryd.func24, Tryd.ntmps24
    go_wp2_with fail
    go_loop [4] (fun i => ∃ k : Nat, k ≤ s.size ∧ i = .int .i64 k ∧ Hid (Digs s k)) (fun i => s.size - (intOf i).toNat)
    case atStart => exact ⟨0, Nat.zero_le _, rfl, hide (fun i _ h => by omega)⟩
    case round =>
      obtain ⟨k, hk, rfl, hdg⟩ := hrel
      by_cases hlt : k < s.size
      · have hltI : (k : Int) < s.size := by omega
        cases hd : digB s[k] with
        | true =>
          have hc1 : (48 : Int) ≤ s[k].toNat := by simp [digB] at hd; omega
          have hc2 : (s[k].toNat : Int) ≤ 57 := by simp [digB] at hd; omega
          have HS := hide (digs_succ hdg.out hlt hd)
          clear hd
          go_wp2_with fail
          go_round
          case rel => exact ⟨k + 1, by omega, by go_num, HS⟩
          case measure => simp [intOf]; omega
        | false =>
          have HR := hide (numR_bad s k hlt hd)
          have hb : (s[k].toNat : Int) < 48 ∨ (57 : Int) < s[k].toNat ∧ ¬ (s[k].toNat : Int) < 48 := by simp [digB] at hd; omega
          clear hd
          rcases hb with hb | ⟨hb, hb2⟩
          all_goals
            go_wp2_with fail
            go_ret2
            exact numr' HR.out
      · obtain rfl : k = s.size := by omega
        have hge : ¬ (s.size : Int) < s.size := by omega
        have HALL := hide hdg.out
        have HGO := hide (numR_go s hpos (all_true s.data.toList fun i hi => hdg.out i (by simpa using hi) (by simpa using hi)) HLE.out)
        clear hdg
        go_wp2_with fail
        go_loop [5, 6] (fun x i => ∃ u k : Nat, k ≤ s.size ∧ x = .int .u64 u ∧ u < 18446744073709551616 ∧ i = .int .i64 k ∧ Hid (accN (s.data.toList.drop k) u = accN s.data.toList 0)) (fun _ i => s.size - (intOf i).toNat)
        case atStart => exact ⟨0, 0, Nat.zero_le _, rfl, by omega, rfl, hide rfl⟩
        case round =>
          obtain ⟨u, k, hk, rfl, hu, rfl, hacc⟩ := hrel
          by_cases hlt : k < s.size
          · have hltI : (k : Int) < s.size := by omega
            have HDR := hide (drop_at s k hlt)
            have HC := HALL.out k hlt hlt
            have hc1 : 48 ≤ s[k].toNat := by simp [digB] at HC; omega
            have hc2 : s[k].toNat ≤ 57 := by simp [digB] at HC; omega
            have hc1' : (48 : Int) ≤ s[k].toNat := by omega
            have hc2' : (s[k].toNat : Int) ≤ 57 := by omega
            clear HC
            by_cases hov : 1844674407370955161 < u ∨ (u = 1844674407370955161 ∧ 5 < s[k].toNat - 48)
            · have HR := hide (show numR s.data.toList = (0, 5) from by rw [HGO.out, ← hacc.out, HDR.out, accN, if_pos hov])
              have ht : (18446744073709551615 - ((s[k].toNat : Int) - 48)) / 10 < (u : Int) := by omega
              clear hov
              go_wp2_with fail
              go_ret2
              exact numr' HR.out
            · have HN := hide (show accN (s.data.toList.drop (k + 1)) (u * 10 + (s[k].toNat - 48)) = accN s.data.toList 0 from by rw [← hacc.out, HDR.out, accN, if_neg hov])
              have ht : ¬ (18446744073709551615 - ((s[k].toNat : Int) - 48)) / 10 < (u : Int) := by omega
              have hlim : u * 10 + (s[k].toNat - 48) < 18446744073709551616 := by omega
              clear hov
              go_wp2_with fail
              go_round
              case rel => exact ⟨u * 10 + (s[k].toNat - 48), k + 1, by omega, congrArg (Value.int .u64) (by omega), hlim, (by go_num), HN⟩
              case measure => simp [intOf]; omega
          · obtain rfl : k = s.size := by omega
            have hge : ¬ (s.size : Int) < s.size := by omega
            have HR := hide (show numR s.data.toList = (u, 0) from by rw [HGO.out, ← hacc.out, show List.drop s.size s.data.toList = [] from List.drop_of_length_le (Nat.le_of_eq rfl)]; rfl)
            go_wp2_with fail
            go_ret2
            exact numr' HR.out
end
section
open Go.RowKit Go.Deep

def valV (c : UInt8) : Nat := if hexB c = true then nib c else 16
theorem hd_eq (n : Nat) (h : n < 16) (c : UInt8) : (hd n).toNat = c.toNat ↔ (hexB c = true ∧ nib c = n) := by
  rw [hd_nat n h]
  have hc := c.toNat_lt
  unfold hexB nib signV
  by_cases h1 : n < 10
  · rw [if_pos h1]
    constructor
    · intro e
      rw [if_pos (by omega)]
      exact ⟨by simp; omega, by omega⟩
    · rintro ⟨a, b⟩
      split at b
      · omega
      · split at b <;> rename_i h2 h3
        · omega
        · simp only [h2, h3, if_false] at a
          simp at a
  · rw [if_neg h1]
    constructor
    · intro e
      rw [if_neg (by omega), if_pos (by omega)]
      exact ⟨by simp; omega, by omega⟩
    · rintro ⟨a, b⟩
      split at b
      · omega
      · split at b <;> rename_i h2 h3
        · omega
        · omega

set_option maxHeartbeats 3200000 in
theorem value_any (c : UInt8) (w : World) : Calls Tryd.prog 41 #[.int .u8 (c.toNat : Int)] w fun e w' => e = .returned (.int .u8 (valV c : Nat)) ∧ w = w' := by
  go_enter Tryd.func41, Tryd.ntmps41
  go_wp2_with fail
  go_loop [3] (fun i => ∃ k : Nat, k ≤ 16 ∧ i = .int .u8 k ∧ Hid (∀ m, m < k → (hd m).toNat ≠ c.toNat)) (fun i => 16 - (intOf i).toNat)
  case atStart => exact ⟨0, by omega, rfl, hide (fun m h => by omega)⟩
  case round =>
    obtain ⟨k, hk, rfl, hne⟩ := hrel
    by_cases hlt : k < 16
    · have hlt' : (k : Int) < 16 := by omega
      have HD := hide (fun W => digit_any k hlt W)
      by_cases he : (hd k).toNat = c.toNat
      · have HV := hide (show valV c = k by
          have := (hd_eq k hlt c).1 he
          unfold valV; rw [if_pos this.1]; exact this.2)
        have heb : (((hd k).toNat : Int) == (c.toNat : Int)) = true := by rw [beq_iff_eq]; omega
        have heb2 : ((hd k).toNat == c.toNat) = true := by simpa using he
        clear he
        generalize (hd k).toNat = y at *
        go_wp2_with (go_at_call 46; refine (HD.out _).mono ?_; rintro e w' ⟨rfl, rfl⟩)
        go_ret
        exact ⟨ret_i (by rw [HV.out]), rfl⟩
      · have heb : (((hd k).toNat : Int) == (c.toNat : Int)) = false := by rw [beq_eq_false_iff_ne]; omega
        have heb2 : ((hd k).toNat == c.toNat) = false := by simpa using he
        have HN := hide (show ∀ m, m < k + 1 → (hd m).toNat ≠ c.toNat from fun m hm => by
          by_cases e : m = k
          · subst e; exact he
          · exact hne.out m (by omega))
        clear he
        generalize (hd k).toNat = y at heb heb2 HD
        go_wp2_with (go_at_call 46; refine (HD.out _).mono ?_; rintro e w' ⟨rfl, rfl⟩)
        go_round
        case rel => exact ⟨k + 1, by omega, by go_num, HN⟩
        case measure => simp [intOf]; omega
    · obtain rfl : k = 16 := by omega
      have HV := hide (show valV c = 16 by
        unfold valV
        split
        · rename_i hx
          exact absurd ((hd_eq (nib c) (nib_lt c) c).2 ⟨hx, rfl⟩) (hne.out _ (nib_lt c))
        · rfl)
      go_wp2_with fail
      go_ret
      exact ⟨ret_i (by rw [HV.out]; rfl), rfl⟩
end
section
open Go.RowKit Go.Deep

theorem valV_hex {c : UInt8} (h : hexB c = true) : valV c = nib c := by unfold valV; rw [if_pos h]
theorem valV_bad {c : UInt8} (h : hexB c = false) : valV c = 16 := by unfold valV; rw [if_neg (by rw [h]; exact Bool.false_ne_true)]

set_option maxRecDepth 100000 in
set_option maxHeartbeats 6400000 in
theorem readhex_ref (w : World) (s : ByteArray) (hs : s.size ≤ 1000000) :
    Calls Tryd.prog 23 #[.string s] w (BytsPost (hexR s.data.toList) w) := by
  obtain ⟨i0, hi, hz0, hz1, hz2⟩ := info_parts (show (Tryd.prog.info? 5).map (fun i => (i.zero, i.size, i.bytes)) = some (some (.int .u8 0), 1, 1) by kernel_rfl)
  go_enter Tryd.func23, Tryd.ntmps23
  go_wp2_with fail
  go_loop [4] (fun i => ∃ k : Nat, k ≤ s.size ∧ i = .int .i64 k ∧ Hid (Hexs s k)) (fun i => s.size - (intOf i).toNat)
  case atStart => exact ⟨0, Nat.zero_le _, rfl, hide (fun i _ h => by omega)⟩
  case round =>
    obtain ⟨k, hk, rfl, hdg⟩ := hrel
    by_cases hlt : k < s.size
    · have hltI : (k : Int) < s.size := by omega
      cases hd : hexB s[k] with
      | true =>
        have HS := hide (hexs_succ hdg.out hlt hd)
        have hx := nib_lt s[k]
        have hv := valV_hex hd
        clear hd
        generalize nib s[k] = x at *
        have hne : ((x : Int) == 16) = false := by rw [beq_eq_false_iff_ne]; omega
        have hne2 : (x == 16) = false := by rw [beq_eq_false_iff_ne]; omega
        go_wp2_with (go_at_call 41; refine (value_any _ _).mono ?_; rintro e w' ⟨rfl, rfl⟩; rw [hv])
        go_round
        case rel => exact ⟨k + 1, by omega, by go_num, HS⟩
        case measure => simp [intOf]; omega
      | false =>
        have HR := hide (hexR_bad s k hlt hd)
        have hv := valV_bad hd
        clear hd
        go_wp2_with (go_at_call 41; refine (value_any _ _).mono ?_; rintro e w' ⟨rfl, rfl⟩; rw [hv])
        go_ret2
        exact byts_nil HR.out (Only.refl _ _)
    · obtain rfl : k = s.size := by omega
      have hge0 : ¬ (s.size : Int) < s.size := by omega
      have HX := hide hdg.out
      by_cases hodd : s.size % 2 = 1
      · have HR := hide (hexR_odd hdg.out hodd)
        have ho2 : (((s.size : Int) % 2) == 1) = true := by rw [beq_iff_eq]; omega
        have ho3 : (((s.size : Int).tmod 2) == 1) = true := by rw [Int.tmod_eq_emod_of_nonneg (by omega)]; exact ho2
        clear hodd
        go_wp2_with fail
        go_ret2
        exact byts_nil HR.out (Only.refl _ _)
      · have HR := hide (hexR_even hdg.out (by omega))
        have ho2 : (((s.size : Int) % 2) == 1) = false := by rw [beq_eq_false_iff_ne]; omega
        have ho3 : (((s.size : Int).tmod 2) == 1) = false := by rw [Int.tmod_eq_emod_of_nonneg (by omega)]; exact ho2
        have HEV := hide (show s.size % 2 = 0 by omega)
        have HOW := hide (World.ownsRow_lit (base := w.heap.size) w #[] 0 (Nat.le_refl _) (by unfold maxLen; omega) (e := 5) (size := 1) (by simp))
        have HO := hide ((Only.refl [] w).alloc (.cells #[] 5))
        clear hodd
        go_wp2_with fail
        obtain ⟨w0, hw0⟩ : ∃ w0, w0 = w.alloc (.cells #[] 5) := ⟨_, rfl⟩
        rw [← hw0] at HOW HO ⊢
        clear hw0 ho2 ho3
        go_loopw [5, 6] (fun v i wr => ∃ j k : Nat, k ≤ s.size ∧ Hid (k = 2 * j) ∧ i = .int .i64 k ∧ Hid (wr.ownsRow w.heap.size 5 1 v j (ints .u8 (byts (hexP (s.data.toList.take k))))) ∧ Hid (Only [] w wr)) (fun _ i _ => s.size - (intOf i).toNat)
        case atStart => exact ⟨0, 0, Nat.zero_le _, hide rfl, rfl, HOW, HO⟩
        case round =>
          obtain ⟨j, k, hk, hkj, rfl, how, ho⟩ := hrel
          by_cases hlt : k < s.size
          · have hlt1 : k + 1 < s.size := by have := hkj.out; have := HEV.out; omega
            have hltI : (k : Int) < s.size := by omega
            have hlt1I : (k : Int) + 1 < s.size := by omega
            have hw1 : IntKind.i64.wrap ((k : Int) + 1) = (k : Int) + 1 := IntWalk.i64_in _ (by omega)
            have h0 : (0 : Int) ≤ (k : Int) + 1 := by omega
            have ht : ((k : Int) + 1).toNat = k + 1 := by omega
            have hx := valV_hex (HX.out k hlt hlt)
            have hy := valV_hex (HX.out (k + 1) hlt1 hlt1)
            obtain ⟨x, hxx⟩ : ∃ x, x = nib s[k] := ⟨_, rfl⟩
            obtain ⟨y, hyy⟩ : ∃ y, y = nib s[k + 1] := ⟨_, rfl⟩
            obtain ⟨z, hzz⟩ : ∃ z, z = 16 * x + y := ⟨_, rfl⟩
            have hx16 : x < 16 := by rw [hxx]; exact nib_lt _
            have hy16 : y < 16 := by rw [hyy]; exact nib_lt _
            have HZ := hide (show z = 16 * nib s[k] + nib s[k + 1] by rw [hzz, hxx, hyy])
            rw [← hxx] at hx
            rw [← hyy] at hy
            have hwm : IntKind.u8.wrap (16 * (x : Int)) = 16 * (x : Int) := by rw [IntKind.wrap_u8]; omega
            have hwu : IntKind.u8.wrap (16 * (x : Int) + (y : Int)) = (z : Int) := by rw [IntKind.wrap_u8]; omega
            obtain ⟨Av, cv, rfl, hjc, hcm⟩ := own_form how.out
            have hj : j < 1000000 := by have := hkj.out; omega
            clear hxx hyy hzz
            have HOW2 := hide (World.ownsRow.alloc (own_only how.out ((Only.refl [] wr).drew) (by simp)) (.cells #[.int .u8 (z : Int)] 5))
            have HO2 := hide (ho.out.drew.alloc (.cells #[.int .u8 (z : Int)] 5))
            have HRN := hide (reads_one wr.drew 5 (.int .u8 (z : Int)) (wr.heap.size + 1) (Nat.lt_succ_self _))
            have HSZ := hide ho.out.size
            have HSZ0 := hide HO.out.size
            go_upto_region 12 with (fail)
            go_region_held3 (fun _ => True) (exact trivial)
              (first
              | (go_at_call 41; refine (value_any _ _).mono ?_; rintro e w' ⟨rfl, rfl⟩; first | rw [hx] | rw [hy])
              | (refine step_append_any _ rfl (.tmp 29) (.tmp 41) 23 rfl w.heap.size 5 i0 (.int .u8 0) 1 1 Tryd.underlying23 hi hz0 hz1 hz2 rfl (by decide) _ j _ rfl HOW2.out _ _ 1 1 [.int .u8 (z : Int)] rfl HRN.out (by simp [Value.oneCell']) (by unfold maxLen; omega) (by omega) (by have := HSZ.out; simp; omega) ?_; intro v1 w3 hown1 hg1 _; have HOW3 := hide (one_hex hown1 hkj.out hlt1 HZ.out); have HO3 := hide (HO2.out.grown hg1 (fun j hj => .inr (own_block_ge HOW2.out hj))); clear hown1 hg1))
            all_goals
              go_wp2_with fail
              go_roundw
              case rel => exact ⟨j + 1, k + 2, by omega, hide (by have := hkj.out; omega), by go_num, HOW3, HO3⟩
              case measure => simp [intOf]; omega
          · obtain rfl : k = s.size := by omega
            have hge : ¬ (s.size : Int) < s.size := by omega
            have HRD := hide (rd_whole how.out)
            go_wp2_with fail
            go_ret2
            exact byts_some HR.out ho.out HRD.out
end
section
open Go.RowKit Go.Deep

theorem accN_append : ∀ (l m : List UInt8) (u : Nat), accN (l ++ m) u = (accN l u).bind (accN m)
  | [], m, u => rfl
  | c :: r, m, u => by
    rw [List.cons_append, accN, accN]
    split
    · rfl
    · exact accN_append r m _
theorem dgt_nat (n : Nat) (h : n < 10) : (UInt8.ofNat (48 + n)).toNat = 48 + n := by rw [UInt8.toNat_ofNat']; omega
theorem accN_one (n v : Nat) (h : n < 10) (hv : v * 10 + n < 18446744073709551616) : accN [UInt8.ofNat (48 + n)] v = some (v * 10 + n) := by
  rw [accN, dgt_nat n h, if_neg (by omega), accN]
  simp
theorem accN_dec (u : Nat) (hu : u < 18446744073709551616) : accN (Lib.decDigits u) 0 = some u := by
  induction u using Nat.strongRecOn with
  | ind u ih =>
    by_cases h : u < 10
    · rw [Lib.decDigits_one h, accN_one u 0 h (by omega)]
      simp
    · rw [dec_split u h, accN_append, ih (u / 10) (by omega) (by omega)]
      show accN _ (u / 10) = _
      rw [accN_one (u % 10) (u / 10) (by omega) (by omega)]
      congr 1
      omega
theorem dec_dig (u : Nat) : (Lib.decDigits u).all digB = true := by
  have hone : ∀ n : Nat, n < 10 → [UInt8.ofNat (48 + n)].all digB = true := fun n h => by
    simp only [List.all_cons, List.all_nil, Bool.and_true]
    unfold digB
    rw [dgt_nat n h]
    simp
    omega
  induction u using Nat.strongRecOn with
  | ind u ih =>
    by_cases h : u < 10
    · rw [Lib.decDigits_one h]; exact hone u h
    · rw [dec_split u h, List.all_append, ih (u / 10) (by omega), hone _ (by omega)]; rfl
theorem dec_ne (u : Nat) : Lib.decDigits u ≠ [] := by
  by_cases h : u < 10
  · rw [Lib.decDigits_one h]; simp
  · rw [dec_split u h]; simp
theorem dec_head (u : Nat) (h0 : 0 < u) : (Lib.decDigits u).head? ≠ some 48 := by
  induction u using Nat.strongRecOn with
  | ind u ih =>
    by_cases h : u < 10
    · rw [Lib.decDigits_one h]
      intro e
      have e2 : UInt8.ofNat (48 + u) = 48 := by simpa using e
      have e3 := congrArg UInt8.toNat e2
      rw [dgt_nat u h] at e3
      have : (48 : UInt8).toNat = 48 := rfl
      omega
    · rw [dec_split u h, List.head?_append]
      have := ih (u / 10) (by omega) (by omega)
      cases hh : (Lib.decDigits (u / 10)).head? with
      | none => rw [List.head?_eq_none_iff] at hh; exact absurd hh (dec_ne _)
      | some x => rw [hh] at this; exact this
theorem numR_dec (u : Nat) (hu : u < 18446744073709551616) : numR (Lib.decDigits u) = (u, 0) := by
  unfold numR
  rw [if_neg (dec_ne u), if_neg (by rw [dec_dig u]; simp), if_neg, accN_dec u hu]
  rintro ⟨h1, h2⟩
  rcases Nat.eq_zero_or_pos u with h | h
  · subst h; rw [Lib.decDigits_one (by omega)] at h2; simp at h2
  · exact dec_head u h h1
theorem dig_back (c : UInt8) (h : digB c = true) : UInt8.ofNat (48 + (c.toNat - 48)) = c := by
  unfold digB at h
  simp only [Bool.and_eq_true, decide_eq_true_eq] at h
  rw [show 48 + (c.toNat - 48) = c.toNat by omega]
  exact UInt8.ofNat_toNat
theorem accN_back : ∀ (l : List UInt8) (v u : Nat), 0 < v → l.all digB = true → accN l v = some u → Lib.decDigits u = Lib.decDigits v ++ l
  | [], v, u, _, _, h => by
    simp only [accN, Option.some.injEq] at h
    rw [h, List.append_nil]
  | c :: r, v, u, hv, hd, h => by
    simp only [List.all_cons, Bool.and_eq_true] at hd
    rw [accN] at h
    split at h
    · cases h
    · have hc := hd.1
      unfold digB at hc
      simp only [Bool.and_eq_true, decide_eq_true_eq] at hc
      have := accN_back r _ u (by omega) hd.2 h
      rw [this, dec_split _ (by omega), show (v * 10 + (c.toNat - 48)) / 10 = v by omega, show (v * 10 + (c.toNat - 48)) % 10 = c.toNat - 48 by omega, dig_back c hd.1, List.append_assoc]
      rfl
theorem numR_back (l : List UInt8) (h : (numR l).2 = 0) : Lib.decDigits (numR l).1 = l := by
  unfold numR at h ⊢
  split
  · rename_i h1; rw [if_pos h1] at h; cases h
  · rename_i h1
    rw [if_neg h1] at h
    split
    · rename_i h2; rw [if_pos h2] at h; cases h
    · rename_i h2
      rw [if_neg h2] at h
      split
      · rename_i h3; rw [if_pos h3] at h; cases h
      · rename_i h3
        rw [if_neg h3] at h
        cases hA : accN l 0 with
        | none => rw [hA] at h; cases h
        | some u =>
          show Lib.decDigits u = l
          cases l with
          | nil => exact absurd rfl h1
          | cons c r =>
            have hd : (c :: r).all digB = true := by simpa using h2
            simp only [List.all_cons, Bool.and_eq_true] at hd
            rw [accN] at hA
            split at hA
            · cases hA
            · have hc := hd.1
              unfold digB at hc
              simp only [Bool.and_eq_true, decide_eq_true_eq] at hc
              rw [Nat.zero_mul, Nat.zero_add] at hA
              rcases Nat.eq_zero_or_pos (c.toNat - 48) with hz | hz
              · have hc48 : c = 48 := UInt8.toNat_inj.1 (by have : (48 : UInt8).toNat = 48 := rfl; omega)
                have hr : r = [] := by
                  cases r with
                  | nil => rfl
                  | cons d t => exact absurd ⟨by rw [hc48]; rfl, by simp⟩ h3
                subst hr
                rw [hz] at hA
                simp only [accN, Option.some.injEq] at hA
                subst hA
                rw [Lib.decDigits_one (by omega), hc48]
                rfl
              · rw [accN_back r _ u hz hd.2 hA, Lib.decDigits_one (by omega), dig_back c hd.1]
                rfl

theorem hd_hex (n : Nat) (h : n < 16) : hexB (hd n) = true ∧ nib (hd n) = n := (hd_eq n h (hd n)).1 rfl
theorem hd_nib (c : UInt8) (h : hexB c = true) : hd (nib c) = c := UInt8.toNat_inj.1 ((hd_eq (nib c) (nib_lt c) c).2 ⟨h, rfl⟩)
theorem hexS_hex : ∀ l : List UInt8, (hexS l).all hexB = true
  | [] => rfl
  | b :: r => by
    have := b.toNat_lt
    simp only [hexS, List.all_cons, (hd_hex (b.toNat / 16) (by omega)).1, (hd_hex (b.toNat % 16) (by omega)).1, hexS_hex r, Bool.and_self]
theorem hexP_hexS : ∀ l : List UInt8, hexP (hexS l) = l
  | [] => rfl
  | b :: r => by
    have := b.toNat_lt
    rw [hexS, hexP, hexP_hexS r, (hd_hex (b.toNat / 16) (by omega)).2, (hd_hex (b.toNat % 16) (by omega)).2, show 16 * (b.toNat / 16) + b.toNat % 16 = b.toNat by omega]
    congr 1
    exact UInt8.ofNat_toNat
theorem hexR_hexS (l : List UInt8) : hexR (hexS l) = (l, 0) := by
  unfold hexR
  rw [if_neg (by rw [hexS_hex l]; simp), if_neg (by rw [hexS_length l]; omega), hexP_hexS l]
theorem hexS_hexP : ∀ l : List UInt8, l.all hexB = true → l.length % 2 = 0 → hexS (hexP l) = l
  | [], _, _ => rfl
  | [a], _, h => by simp at h
  | a :: b :: r, hh, h => by
    simp only [List.all_cons, Bool.and_eq_true] at hh
    have ha := nib_lt a
    have hb := nib_lt b
    have hx : (UInt8.ofNat (16 * nib a + nib b)).toNat = 16 * nib a + nib b := by rw [UInt8.toNat_ofNat']; omega
    rw [hexP, hexS, hx, show (16 * nib a + nib b) / 16 = nib a by omega, show (16 * nib a + nib b) % 16 = nib b by omega, hd_nib a hh.1, hd_nib b hh.2.1, hexS_hexP r hh.2.2 (by simp only [List.length_cons] at h; omega)]
theorem hexR_back (l : List UInt8) (h : (hexR l).2 = 0) : hexS (hexR l).1 = l := by
  unfold hexR at h ⊢
  split
  · rename_i h1; rw [if_pos h1] at h; cases h
  · rename_i h1
    rw [if_neg h1] at h
    split
    · rename_i h2; rw [if_pos h2] at h; cases h
    · rename_i h2
      exact hexS_hexP l (by simpa using h1) (by omega)
theorem hexP_len : ∀ l : List UInt8, (hexP l).length ≤ l.length
  | [] => Nat.le_refl _
  | [a] => by simp [hexP]
  | a :: b :: r => by
    have := hexP_len r
    simp only [hexP, List.length_cons]; omega
theorem hexR_len (l : List UInt8) : (hexR l).1.length ≤ l.length := by
  unfold hexR
  split
  · simp
  · split
    · simp
    · exact hexP_len l
end
section
open Go.RowKit

def sepQ (c : UInt8) : Bool := c == 46 || c == 58
def splitQ : List UInt8 → List (List UInt8)
  | [] => [[]]
  | b :: l => if sepQ b = true then [] :: splitQ l else match splitQ l with
    | [] => [[b]]
    | p :: r => (b :: p) :: r
theorem splitQ_sep {c : UInt8} {r : List UInt8} (hc : sepQ c = true) : ∀ a : List UInt8, (∀ b ∈ a, sepQ b = false) → splitQ (a ++ c :: r) = a :: splitQ r
  | [], _ => by rw [List.nil_append, splitQ, if_pos hc]
  | b :: a, h => by
    have hb := h b List.mem_cons_self
    rw [List.cons_append, splitQ, if_neg (by rw [hb]; exact Bool.false_ne_true), splitQ_sep hc a (fun x hx => h x (List.mem_cons_of_mem _ hx))]
theorem splitQ_one : ∀ a : List UInt8, (∀ b ∈ a, sepQ b = false) → splitQ a = [a]
  | [], _ => rfl
  | b :: a, h => by
    have hb := h b List.mem_cons_self
    rw [splitQ, if_neg (by rw [hb]; exact Bool.false_ne_true), splitQ_one a (fun x hx => h x (List.mem_cons_of_mem _ hx))]
def okQ (six : Bool) (p : List UInt8) : Prop := if six then (hexR p).2 = 0 else (numR p).2 = 0
instance (six : Bool) (p : List UInt8) : Decidable (okQ six p) := by unfold okQ; infer_instance
def valQ (six : Bool) (p : List UInt8) : List UInt8 := if six then (hexR p).1 else [UInt8.ofNat ((numR p).1 % 256)]
/-- How the loop stands: the text's parts so far, the place where the next one begins, the place at hand. -/
def QIs (six : Bool) (L : List UInt8) (f i : Nat) (o : List UInt8) : Prop :=
  ∃ pre : List (List UInt8), (∀ p ∈ pre, okQ six p) ∧ o = pre.flatMap (valQ six) ∧ o.length ≤ f ∧ f ≤ i ∧
    ((i ≤ L.length ∧ (∀ b ∈ (L.take i).drop f, sepQ b = false) ∧ pre ++ splitQ (L.drop f) = splitQ L) ∨ (i = L.length + 1 ∧ pre = splitQ L))
theorem qis_start (six : Bool) (L : List UInt8) : QIs six L 0 0 [] := ⟨[], by simp, rfl, Nat.le_refl _, Nat.le_refl _, .inl ⟨Nat.zero_le _, by simp, rfl⟩⟩
theorem qis_len {six : Bool} {L : List UInt8} {f i : Nat} {o : List UInt8} (h : QIs six L f i o) : o.length ≤ f ∧ f ≤ i := by
  obtain ⟨_, _, _, h1, h2, _⟩ := h
  exact ⟨h1, h2⟩
theorem take_next {L : List UInt8} {f i : Nat} (hf : f ≤ i) (hi : i < L.length) : (L.take (i + 1)).drop f = (L.take i).drop f ++ [L[i]] := by
  rw [List.take_add_one, List.getElem?_eq_getElem hi, List.drop_append_of_le_length (by rw [List.length_take]; omega)]
  rfl
theorem qis_skip {six : Bool} {L : List UInt8} {f i : Nat} {o : List UInt8} (h : QIs six L f i o) (hi : i < L.length) (hc : sepQ L[i] = false) : QIs six L f (i + 1) o := by
  obtain ⟨pre, h1, h2, h3, h4, h5⟩ := h
  rcases h5 with ⟨_, h6, h7⟩ | ⟨h6, _⟩
  · refine ⟨pre, h1, h2, h3, by omega, .inl ⟨hi, ?_, h7⟩⟩
    rw [take_next h4 hi]
    intro b hb
    rcases List.mem_append.1 hb with hb | hb
    · exact h6 b hb
    · obtain rfl : b = L[i] := by simpa using hb
      exact hc
  · omega
theorem dropq_at {L : List UInt8} {f i : Nat} (hf : f ≤ i) (hi : i < L.length) : L.drop f = (L.take i).drop f ++ L[i] :: L.drop (i + 1) := by
  conv => lhs; rw [← List.take_append_drop i L]
  rw [List.drop_append_of_le_length (by rw [List.length_take]; omega), List.drop_eq_getElem_cons hi]
/-- The part that ends here: it is one of the text's parts. -/
theorem qis_here {six : Bool} {L : List UInt8} {f i : Nat} {o : List UInt8} (h : QIs six L f i o) (hi : i ≤ L.length) (hc : ∀ h : i < L.length, sepQ L[i] = true) :
    ∃ pre : List (List UInt8), (∀ p ∈ pre, okQ six p) ∧ o = pre.flatMap (valQ six) ∧ (i < L.length ∧ pre ++ (L.take i).drop f :: splitQ (L.drop (i + 1)) = splitQ L ∨ i = L.length ∧ pre ++ [(L.take i).drop f] = splitQ L) := by
  obtain ⟨pre, h1, h2, h3, h4, h5⟩ := h
  rcases h5 with ⟨_, h6, h7⟩ | ⟨h6, _⟩
  · refine ⟨pre, h1, h2, ?_⟩
    by_cases hlt : i < L.length
    · rw [dropq_at h4 hlt, splitQ_sep (hc hlt) _ h6] at h7
      exact .inl ⟨hlt, h7⟩
    · obtain rfl : i = L.length := by omega
      rw [List.take_length] at h6 ⊢
      rw [splitQ_one _ h6] at h7
      exact .inr ⟨rfl, h7⟩
  · omega
theorem qis_part {six : Bool} {L : List UInt8} {f i : Nat} {o : List UInt8} (h : QIs six L f i o) (hi : i ≤ L.length) (hc : ∀ h : i < L.length, sepQ L[i] = true) (hok : okQ six ((L.take i).drop f)) (hlen : (valQ six ((L.take i).drop f)).length ≤ i + 1 - f) :
    QIs six L (i + 1) (i + 1) (o ++ valQ six ((L.take i).drop f)) := by
  have hl := qis_len h
  obtain ⟨pre, h1, h2, h3⟩ := qis_here h hi hc
  refine ⟨pre ++ [(L.take i).drop f], ?_, ?_, ?_, Nat.le_refl _, ?_⟩
  · intro p hp
    rcases List.mem_append.1 hp with hp | hp
    · exact h1 p hp
    · obtain rfl : p = _ := by simpa using hp
      exact hok
  · rw [List.flatMap_append, ← h2]; simp
  · rw [List.length_append]; omega
  · rcases h3 with ⟨h4, h5⟩ | ⟨h4, h5⟩
    · exact .inl ⟨h4, by simp, by rw [← h5]; simp⟩
    · exact .inr ⟨by omega, h5⟩
theorem qis_bad {six : Bool} {L : List UInt8} {f i : Nat} {o : List UInt8} (h : QIs six L f i o) (hi : i ≤ L.length) (hc : ∀ h : i < L.length, sepQ L[i] = true) (hok : ¬ okQ six ((L.take i).drop f)) : ¬ ∀ p ∈ splitQ L, okQ six p := by
  obtain ⟨pre, h1, h2, h3⟩ := qis_here h hi hc
  intro hall
  refine hok (hall _ ?_)
  rcases h3 with ⟨_, h5⟩ | ⟨_, h5⟩ <;> rw [← h5] <;> simp
theorem qis_end {six : Bool} {L : List UInt8} {f : Nat} {o : List UInt8} (h : QIs six L f (L.length + 1) o) : (∀ p ∈ splitQ L, okQ six p) ∧ o = (splitQ L).flatMap (valQ six) := by
  obtain ⟨pre, h1, h2, h3, h4, h5⟩ := h
  rcases h5 with ⟨h6, _⟩ | ⟨_, rfl⟩
  · omega
  · exact ⟨h1, h2⟩
/-- What the reference's Read hands back. -/
def refR (s : ByteArray) : Option (List UInt8) :=
  if (∀ p ∈ splitQ s.data.toList, okQ (decide (s.size = 39)) p) ∧ ((splitQ s.data.toList).flatMap (valQ (decide (s.size = 39)))).length = (if s.size = 39 then 16 else 4) ∧ printV ((splitQ s.data.toList).flatMap (valQ (decide (s.size = 39)))) = s.data.toList
  then some ((splitQ s.data.toList).flatMap (valQ (decide (s.size = 39)))) else none
def RRPost (r : Option (List UInt8)) (w : World) (e : Ending) (w' : World) : Prop := match r with
  | some l => ∃ v, e = .returned (.tuple #[v, .bool true]) ∧ Only [] w w' ∧ ∀ N : List Nat, (∀ x ∈ N, x < w.heap.size) → Rd w' N v (ints .u8 (byts l))
  | none => e = .returned (.tuple #[.slice none 0 0, .bool false]) ∧ Only [] w w'
end
end Go.Proofs.YthecnaclfhfilaaDoor

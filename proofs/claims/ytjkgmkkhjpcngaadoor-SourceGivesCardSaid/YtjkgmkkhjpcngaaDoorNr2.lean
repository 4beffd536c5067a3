/-
  The reference's Read (a number's text), by walking. Condition: the text has at most 1,000,000 bytes.
-/
import Derived.Test.YtjkgmkkhjpcngaaDoorNr1
namespace Go.Proofs.YtjkgmkkhjpcngaaDoor
open Go.RowKit Go.Deep

def NumRPost' (r : Nat × Nat) (w : World) (e : Ending) (w' : World) : Prop := e = .returned (.tuple #[.int .u64 r.1, .int .i64 r.2]) ∧ w = w'
theorem numr' {a b : Nat} {r : Nat × Nat} {w : World} (h : r = (a, b)) : NumRPost' r w (.returned (.tuple #[.int .u64 a, .int .i64 b])) w := by
  subst h; exact ⟨rfl, rfl⟩

set_option maxRecDepth 100000 in
set_option maxHeartbeats 6400000 in
theorem read_ref (w : World) (s : ByteArray) (hs : s.size ≤ 1000000) : Calls Tryd.prog 11 #[.string s] w (NumRPost' (numR s.data.toList) w) := by
  by_cases h0 : s.size = 0
  · have HR := hide (numR_empty s h0)
    have hb : ((s.size : Int) == 0) = true := by rw [beq_iff_eq]; omega
    have hb1 : (s.size == 0) = true := by simpa using h0
    clear h0
    go_enter Tryd.func11, Tryd.ntmps11
    go_wp2_with fail
    go_ret2
    exact numr' HR.out
  have hpos : 0 < s.size := by omega
  have hb : ((s.size : Int) == 0) = false := by rw [beq_eq_false_iff_ne]; omega
  have hb1 : (s.size == 0) = false := by simpa using h0
  by_cases hlead : s[0].toNat = 48 ∧ 1 < s.size
  · have HR := hide (numR_lead s hlead.2 hlead.1)
    obtain ⟨h1, h2⟩ := hlead
    have h2' : (1 : Int) < s.size := by omega
    have h1' : ((s[0].toNat : Int) == 48) = true := by rw [beq_iff_eq]; omega
    clear h0 h1
    go_enter Tryd.func11, Tryd.ntmps11
    go_wp2_with fail
    go_ret2
    exact numr' HR.out
  have HLE := hide hlead
  have hcs : (¬ (1 : Int) < s.size) ∨ ((1 : Int) < s.size ∧ ((s[0].toNat : Int) == 48) = false) := by
    by_cases h2 : 1 < s.size
    · refine .inr ⟨by omega, ?_⟩
      rw [beq_eq_false_iff_ne]
      intro h
      exact hlead ⟨by omega, h2⟩
    · exact .inl (by omega)
  clear h0 hlead
  rcases hcs with h2 | ⟨h2, h1⟩
  all_goals
    go_enter Tryd.func11, Tryd.ntmps11
    go_wp2_with fail
    go_loop [4] (fun i => ∃ k : Nat, k ≤ s.size ∧ i = .int .i64 k ∧ Hid (Digs s k)) (fun i => s.size - (intOf i).toNat)
    case atStart => exact ⟨0, Nat.zero_le _, rfl, hide (fun i _ h => by omega)⟩
    case round =>
      obtain ⟨k, hk, rfl, hdg⟩ := hrel
      by_cases hlt : k < s.size
      · have hltI : (k : Int) < s.size := by omega
        cases hd : digB s[k] with
        | true =>
          have hc1 : (48 : Int) ≤ s[k].toNat := by simp [digB] at hd; omega
          have hc2 : (s[k].toNat : Int) ≤ 57 := by simp [digB] at hd; omega
          have HS := hide (digs_succ hdg.out hlt hd)
          clear hd
          go_wp2_with fail
          go_round
          case rel => exact ⟨k + 1, by omega, by go_num, HS⟩
          case measure => simp [intOf]; omega
        | false =>
          have HR := hide (numR_bad s k hlt hd)
          have hb : (s[k].toNat : Int) < 48 ∨ (57 : Int) < s[k].toNat ∧ ¬ (s[k].toNat : Int) < 48 := by simp [digB] at hd; omega
          clear hd
          rcases hb with hb | ⟨hb, hb2⟩
          all_goals
            go_wp2_with fail
            go_ret2
            exact numr' HR.out
      · obtain rfl : k = s.size := by omega
        have hge : ¬ (s.size : Int) < s.size := by omega
        have HALL := hide hdg.out
        have HGO := hide (numR_go s hpos (all_true s.data.toList fun i hi => hdg.out i (by simpa using hi) (by simpa using hi)) HLE.out)
        clear hdg
        go_wp2_with fail
        go_loop [5, 6] (fun x i => ∃ u k : Nat, k ≤ s.size ∧ x = .int .u64 u ∧ u < 18446744073709551616 ∧ i = .int .i64 k ∧ Hid (accN (s.data.toList.drop k) u = accN s.data.toList 0)) (fun _ i => s.size - (intOf i).toNat)
        case atStart => exact ⟨0, 0, Nat.zero_le _, rfl, by omega, rfl, hide rfl⟩
        case round =>
          obtain ⟨u, k, hk, rfl, hu, rfl, hacc⟩ := hrel
          by_cases hlt : k < s.size
          · have hltI : (k : Int) < s.size := by omega
            have HDR := hide (drop_at s k hlt)
            have HC := HALL.out k hlt hlt
            have hc1 : 48 ≤ s[k].toNat := by simp [digB] at HC; omega
            have hc2 : s[k].toNat ≤ 57 := by simp [digB] at HC; omega
            have hc1' : (48 : Int) ≤ s[k].toNat := by omega
            have hc2' : (s[k].toNat : Int) ≤ 57 := by omega
            clear HC
            by_cases hov : 1844674407370955161 < u ∨ (u = 1844674407370955161 ∧ 5 < s[k].toNat - 48)
            · have HR := hide (show numR s.data.toList = (0, 5) from by rw [HGO.out, ← hacc.out, HDR.out, accN, if_pos hov])
              have ht : (18446744073709551615 - ((s[k].toNat : Int) - 48)) / 10 < (u : Int) := by omega
              clear hov
              go_wp2_with fail
              go_ret2
              exact numr' HR.out
            · have HN := hide (show accN (s.data.toList.drop (k + 1)) (u * 10 + (s[k].toNat - 48)) = accN s.data.toList 0 from by rw [← hacc.out, HDR.out, accN, if_neg hov])
              have ht : ¬ (18446744073709551615 - ((s[k].toNat : Int) - 48)) / 10 < (u : Int) := by omega
              have hlim : u * 10 + (s[k].toNat - 48) < 18446744073709551616 := by omega
              clear hov
              go_wp2_with fail
              go_round
              case rel => exact ⟨u * 10 + (s[k].toNat - 48), k + 1, by omega, congrArg (Value.int .u64) (by omega), hlim, (by go_num), HN⟩
              case measure => simp [intOf]; omega
          · obtain rfl : k = s.size := by omega
            have hge : ¬ (s.size : Int) < s.size := by omega
            have HR := hide (show numR s.data.toList = (u, 0) from by rw [HGO.out, ← hacc.out, show List.drop s.size s.data.toList = [] from List.drop_of_length_le (Nat.le_of_eq rfl)]; rfl)
            go_wp2_with fail
            go_ret2
            exact numr' HR.out
end Go.Proofs.YtjkgmkkhjpcngaaDoor

/-
  num.Read: the contract, by walking. Condition: the text is no longer than a slice may be.
-/
import Derived.Test.YtfmfnfmhknlpbaaNum1Q
import Derived.ScopeJumps
namespace Go.Proofs.Ytfmfnfmhknlpbaa
open Go.RowKit Go.Deep

/-- All signs before k are digits. -/
def Digs (s : ByteArray) (k : Nat) : Prop := ∀ i (h : i < s.size), i < k → digB s[i] = true
def ReadLoop (w : World) (s : ByteArray) (a' : Act) (w' : World) : Prop :=
  ∃ (K U : Int) (u1 u2 u3 u4 u5 u8 u9 u10 u11 u12 u13 u14 u15 u16 u17 u18 u19 u20 u21 u22 u23 u24 u25 u26 u27 u28 u29 u30 u31 u32 u33 u34 u35 u36 u37 u38 u39 u40 u41 u42 u43 u44 u45 u46 u47 u48 u49 u50 u51 u52 u53 u54 u55 : Value), a' = ⟨#[.string s, u1, u2, u3, u4, u5, .int .u64 U, .int .i64 K, u8, u9, u10, u11, u12, u13, u14, u15, u16, u17, u18, u19, u20, u21, u22, u23, u24, u25, u26, u27, u28, u29, u30, u31, u32, u33, u34, u35, u36, u37, u38, u39, u40, u41, u42, u43, u44, u45, u46, u47, u48, u49, u50, u51, u52, u53, u54, u55], []⟩ ∧ w' = w.iter s s.size ∧ ∃ k u : Nat, K = k ∧ U = u ∧ k ≤ s.size ∧ u < 18446744073709551616 ∧ Digs s s.size ∧ ¬ (1 < s.size ∧ s.data.toList.head? = some 48) ∧ accN (s.data.toList.drop k) u = accN s.data.toList 0

theorem toList_e (s : ByteArray) (h : s.size = 0) : s.toList.isEmpty = true := by rw [ByteArray.toList_eq, empty_of s h]; rfl
theorem toList_n (s : ByteArray) (h : 0 < s.size) : s.toList.isEmpty = false := by
  rw [ByteArray.toList_eq]
  cases hl : s.data.toList with
  | nil => exact absurd hl (not_empty s h)
  | cons _ _ => rfl
set_option maxRecDepth 100000 in
set_option maxHeartbeats 3200000 in
theorem num_read_empty (w : World) (s : ByteArray) (h0 : s.size = 0) :
    Calls Try.prog 108 #[.string s] w (NumRPost (numR s.data.toList) w) := by
  have HR := hide (numR_empty s h0)
  have he2 := toList_e s h0
  clear h0
  go_enter Try.func108, Try.ntmps108
  go_wp2_with fail
  refine wp_scope_jumps 0 (fun _ _ => False) (fun _ _ => 0) rfl ?_ ?_
  · go_wp2_with fail
    simp only [Exit.jump]
    refine bodyPost_ret (results_tmp2 rfl _ _ _) rfl ?_
    exact numr HR.out (Only.refl _ _)
  · intro a' w' h
    cases h
theorem digs_succ {s : ByteArray} {k : Nat} (h : Digs s k) (hk : k < s.size) (hd : digB s[k] = true) : Digs s (k + 1) := by
  intro i hi hik
  by_cases e : i = k
  · subst e; exact hd
  · exact h i hi (by omega)

theorem head_of {s : ByteArray} (hp : 0 < s.size) (h : ¬ (s[0].toNat = 48 ∧ 1 < s.size)) : ¬ (1 < s.size ∧ s.data.toList.head? = some 48) := by
  rintro ⟨a, b⟩
  refine h ⟨?_, a⟩
  rw [List.head?_eq_getElem?, List.getElem?_eq_getElem (by simpa using hp)] at b
  simp only [Option.some.injEq] at b
  have : s[0] = 48 := b
  rw [this]
  rfl
theorem of_head {s : ByteArray} (hp : 0 < s.size) (h : ¬ (1 < s.size ∧ s.data.toList.head? = some 48)) : ¬ (s[0].toNat = 48 ∧ 1 < s.size) := by
  rintro ⟨a, b⟩
  refine h ⟨b, ?_⟩
  rw [List.head?_eq_getElem?, List.getElem?_eq_getElem (by simpa using hp)]
  congr 1
  exact UInt8.toNat_inj.1 a
theorem decode_dig (s : ByteArray) (k : Nat) (h : k < s.size) (hd : digB s[k] = true) : Utf8.decode s k = (s[k].toNat, 1) := by
  refine decode_ascii s k h ?_
  simp [digB] at hd
  omega
theorem decode_bad (s : ByteArray) (k : Nat) (h : k < s.size) (hd : digB s[k] = false) : (Utf8.decode s k).1 < 48 ∨ 57 < (Utf8.decode s k).1 := by
  by_cases ha : s[k].toNat < 128
  · rw [decode_ascii s k h ha]
    simp [digB] at hd
    simp only
    omega
  · have := (decode_high s k h (by omega)).1
    omega

set_option maxRecDepth 100000 in
set_option maxHeartbeats 6400000 in
theorem num_read_some (w : World) (s : ByteArray) (hs : s.size ≤ maxLen) (hpos : 0 < s.size) :
    Calls Try.prog 108 #[.string s] w (NumRPost (numR s.data.toList) w) := by
  unfold maxLen at hs
  have he2 := toList_n s hpos
  go_enter Try.func108, Try.ntmps108
  go_wp2_with fail
  refine wp_scope_jumps 0 (ReadLoop w s) (fun a' _ => s.size - (intOf (a'.tmps.getD 7 undef)).toNat) rfl ?_ ?_
  · go_wp2_with fail
    go_loopg [5] s.size (fun gk r wr => ∃ k : Nat, k ≤ s.size ∧ gk + k = s.size ∧ Hid (Digs s k) ∧ wr = w.iter s k)
    case atStart => exact ⟨0, Nat.zero_le _, by omega, hide (fun i _ h => by omega), rfl⟩
    case round =>
      obtain ⟨k, hk, hgk, hdg, rfl⟩ := hrel
      have HG := hide hgk
      clear hgk
      by_cases hlt : k < s.size
      · have hnx : ∀ ty, (Instr.next (.pointer (some ⟨w.heap.size, 0, none⟩)) true ty).run Try.prog (w.iter s k) = _ := fun ty => run_next_any w s k ty hlt
        cases hd : digB s[k] with
        | true =>
          rw [decode_dig s k hlt hd] at hnx
          have hc1 : 48 ≤ s[k].toNat := by simp [digB] at hd; omega
          have hc2 : s[k].toNat ≤ 57 := by simp [digB] at hd; omega
          have hc1' : (48 : Int) ≤ s[k].toNat := by omega
          have hc2' : (s[k].toNat : Int) ≤ 57 := by omega
          have HS := hide (digs_succ hdg.out hlt hd)
          clear hd
          go_wp2_with fail
          go_roundg (gk - 1)
          case rel => exact ⟨k + 1, by omega, by have := HG.out; omega, HS, rfl⟩
          case measure => have := HG.out; omega
        | false =>
          have hb := decode_bad s k hlt hd
          have HR := hide (numR_bad s k hlt hd)
          have hr := decode_le s k
          clear hd
          generalize Utf8.decode s k = d at *
          obtain ⟨r, n⟩ := d
          simp only at hb hr hnx
          rcases hb with hb | hb
          · have hb' : (r : Int) < 48 := by omega
            go_wp2_with fail
            simp only [Exit.jump]
            refine bodyPost_ret (results_tmp2 rfl _ _ _) rfl ?_
            exact numr HR.out (only_iter w s _)
          · have hb' : (57 : Int) < r := by omega
            have hb2 : ¬ (r : Int) < 48 := by omega
            go_wp2_with fail
            simp only [Exit.jump]
            refine bodyPost_ret (results_tmp2 rfl _ _ _) rfl ?_
            exact numr HR.out (only_iter w s _)
      · obtain rfl : k = s.size := by omega
        have hnx : ∀ ty, (Instr.next (.pointer (some ⟨w.heap.size, 0, none⟩)) true ty).run Try.prog (w.iter s s.size) = _ := fun ty => run_next_end w s s.size ty hlt
        have HALL := hide (all_true s.data.toList fun i hi => hdg.out i (by simpa using hi) (by simpa using hi))
        by_cases hlead : s[0].toNat = 48 ∧ 1 < s.size
        · obtain ⟨h1, h2⟩ := hlead
          have HR := hide (numR_lead s h2 h1)
          have h1' : ((s[0].toNat : Int) == 48) = true := by rw [beq_iff_eq]; omega
          have h2' : (1 : Int) < s.size := by omega
          clear h1
          go_wp2_with fail
          simp only [Exit.jump]
          refine bodyPost_ret (results_tmp2 rfl _ _ _) rfl ?_
          exact numr HR.out (only_iter w s _)
        · have HGO := hide (numR_go s hpos HALL.out hlead)
          have HDG := hide hdg.out
          have HLD := hide (head_of hpos hlead)
          have HACC := hide (show accN (s.data.toList.drop 0) 0 = accN s.data.toList 0 from rfl)
          have hlt0 : 0 < s.size := hpos
          have hltI : (0 : Int) < s.size := by omega
          have hb2 : ((0 : Int) == (s.size : Int)) = false := by rw [beq_eq_false_iff_ne]; omega
          have HDR := hide (drop_at s 0 hpos)
          have HC := hdg.out 0 hpos hpos
          have hc1 : 48 ≤ s[0].toNat := by simp [digB] at HC; omega
          have hc2 : s[0].toNat ≤ 57 := by simp [digB] at HC; omega
          have hc1' : (48 : Int) ≤ s[0].toNat := by omega
          have hc2' : (s[0].toNat : Int) ≤ 57 := by omega
          have HN := hide (show accN (s.data.toList.drop (0 + 1)) (s[0].toNat - 48) = accN s.data.toList 0 from by rw [← HACC.out, HDR.out, accN, if_neg (by omega)]; simp only [Nat.zero_mul, Nat.zero_add])
          clear HC
          by_cases h1 : s[0].toNat = 48
          · have h1' : ((s[0].toNat : Int) == 48) = true := by rw [beq_iff_eq]; omega
            have h2' : ¬ (1 : Int) < s.size := by omega
            clear h1 hlead
            go_wp2_with fail
            go_step3
            go_wp2_with fail
            go_step3
            exact ⟨rfl, _, _, _, _, _, _, _, _, _, _, _, _, _, _, _, _, _, _, _, _, _, _, _, _, _, _, _, _, _, _, _, _, _, _, _, _, _, _, _, _, _, _, _, _, _, _, _, _, _, _, _, _, _, _, _, rfl, rfl, 1, s[0].toNat - 48, by omega, by omega, by omega, by omega, HDG.out, HLD.out, HN.out⟩
          · have h1' : ((s[0].toNat : Int) == 48) = false := by rw [beq_eq_false_iff_ne]; omega
            clear h1 hlead
            go_wp2_with fail
            go_step3
            go_wp2_with fail
            go_step3
            exact ⟨rfl, _, _, _, _, _, _, _, _, _, _, _, _, _, _, _, _, _, _, _, _, _, _, _, _, _, _, _, _, _, _, _, _, _, _, _, _, _, _, _, _, _, _, _, _, _, _, _, _, _, _, _, _, _, _, _, rfl, rfl, 1, s[0].toNat - 48, by omega, by omega, by omega, by omega, HDG.out, HLD.out, HN.out⟩
  · rintro a' w' ⟨K, U, u1, u2, u3, u4, u5, u8, u9, u10, u11, u12, u13, u14, u15, u16, u17, u18, u19, u20, u21, u22, u23, u24, u25, u26, u27, u28, u29, u30, u31, u32, u33, u34, u35, u36, u37, u38, u39, u40, u41, u42, u43, u44, u45, u46, u47, u48, u49, u50, u51, u52, u53, u54, u55, rfl, rfl, k, u, rfl, rfl, hk, hu, hdg, hld, hacc⟩
    have HDG := hide hdg
    have HLD := hide hld
    have HACC := hide hacc
    have HALL := hide hdg
    have HGO := hide (numR_go s hpos (all_true s.data.toList fun i hi => hdg i (by simpa using hi) (by simpa using hi)) (of_head hpos hld))
    clear hdg hld hacc
    by_cases hke : k = s.size
    · have HR := hide (show numR s.data.toList = (u, 0) from by rw [HGO.out, ← HACC.out, hke, show List.drop s.size s.data.toList = [] from List.drop_of_length_le (Nat.le_of_eq rfl)]; rfl)
      have hb2 : ((k : Int) == (s.size : Int)) = true := by rw [beq_iff_eq]; omega
      clear hke
      go_wp2_with fail
      simp only [Exit.jump]
      refine bodyPost_ret (results_tmp2 rfl _ _ _) rfl ?_
      exact numr HR.out (only_iter w s s.size)
    · have hlt : k < s.size := by omega
      have hlt' : (k : Int) < s.size := by omega
      have hb2 : ((k : Int) == (s.size : Int)) = false := by rw [beq_eq_false_iff_ne]; omega
      have HDR := hide (drop_at s k hlt)
      have HC := HALL.out k hlt hlt
      have hc1 : 48 ≤ s[k].toNat := by simp [digB] at HC; omega
      have hc2 : s[k].toNat ≤ 57 := by simp [digB] at HC; omega
      have hc1' : (48 : Int) ≤ s[k].toNat := by omega
      have hc2' : (s[k].toNat : Int) ≤ 57 := by omega
      clear HC hke
      by_cases h1 : 1844674407370955161 < u
      · have HR := hide (show numR s.data.toList = (0, 5) from by rw [HGO.out, ← HACC.out, HDR.out, accN, if_pos (.inl h1)])
        have h1' : (1844674407370955161 : Int) < u := by omega
        clear h1
        go_wp2_with fail
        simp only [Exit.jump]
        refine bodyPost_ret (results_tmp2 rfl _ _ _) rfl ?_
        exact numr HR.out (only_iter w s s.size)
      · have h1' : ¬ (1844674407370955161 : Int) < u := by omega
        by_cases h2 : u = 1844674407370955161
        · have HU := hide h2
          have h2' : ((u : Int) == 1844674407370955161) = true := by rw [beq_iff_eq]; omega
          by_cases h3 : 53 < s[k].toNat
          · have HR := hide (show numR s.data.toList = (0, 5) from by rw [HGO.out, ← HACC.out, HDR.out, accN, if_pos (.inr ⟨HU.out, by omega⟩)])
            have h3' : (5 : Int) < s[k].toNat - 48 := by omega
            clear h1 h2 h3
            go_wp2_with fail
            simp only [Exit.jump]
            refine bodyPost_ret (results_tmp2 rfl _ _ _) rfl ?_
            exact numr HR.out (only_iter w s s.size)
          · have HN := hide (show accN (s.data.toList.drop (k + 1)) (u * 10 + (s[k].toNat - 48)) = accN s.data.toList 0 from by rw [← HACC.out, HDR.out, accN, if_neg (by omega)])
            have h3' : ¬ (5 : Int) < s[k].toNat - 48 := by omega
            have hlim : u * 10 + (s[k].toNat - 48) < 18446744073709551616 := by omega
            clear h1 h2 h3
            go_wp2_with fail
            go_step3
            refine ⟨rfl, ⟨_, _, _, _, _, _, _, _, _, _, _, _, _, _, _, _, _, _, _, _, _, _, _, _, _, _, _, _, _, _, _, _, _, _, _, _, _, _, _, _, _, _, _, _, _, _, _, _, _, _, _, _, _, _, _, rfl, rfl, k + 1, u * 10 + (s[k].toNat - 48), by omega, by omega, by omega, hlim, HDG.out, HLD.out, HN.out⟩, ?_⟩
            simp [intOf]
            omega
        · have HN := hide (show accN (s.data.toList.drop (k + 1)) (u * 10 + (s[k].toNat - 48)) = accN s.data.toList 0 from by rw [← HACC.out, HDR.out, accN, if_neg (by omega)])
          have h2' : ((u : Int) == 1844674407370955161) = false := by rw [beq_eq_false_iff_ne]; omega
          have hlim : u * 10 + (s[k].toNat - 48) < 18446744073709551616 := by omega
          have hu1 : (u : Int) ≤ 1844674407370955160 := by omega
          clear h1 h2
          go_wp2_with fail
          go_step3
          refine ⟨rfl, ⟨_, _, _, _, _, _, _, _, _, _, _, _, _, _, _, _, _, _, _, _, _, _, _, _, _, _, _, _, _, _, _, _, _, _, _, _, _, _, _, _, _, _, _, _, _, _, _, _, _, _, _, _, _, _, _, rfl, rfl, k + 1, u * 10 + (s[k].toNat - 48), by omega, by omega, by omega, hlim, HDG.out, HLD.out, HN.out⟩, ?_⟩
          simp [intOf]
          omega
end Go.Proofs.Ytfmfnfmhknlpbaa

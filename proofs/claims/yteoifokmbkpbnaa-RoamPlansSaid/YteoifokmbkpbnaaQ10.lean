/-
  Walks and plain words (texts Ro8). No condition beyond those that each theorem states.
-/
import Derived.Test.YteoifokmbkpbnaaQ09
namespace Go.Proofs.Yteoifokmbkpbnaa
section
open Go.RowKit Go.Deep

set_option maxRecDepth 100000 in
set_option maxHeartbeats 12800000 in
theorem ref_plan (w : World) (N M : List Nat) (mv rv : Value) (m : List (Int × Int)) (rs : List Rt) (U : Nat) (hm : RdS 2 ptc w N mv m) (hr : RdR w M rv rs) (hrl : rs.length ≤ 1000) (hll : ∀ r ∈ rs, r.2.2.length ≤ 1000) (hj : jrV m rs = true) (hn8 : rs.length ≤ 8) (hU : U ≤ 1000) :
    Calls Try.prog 27 #[mv, rv, .int .i64 U] w (ListPost 5 acC (planK m rs (U + 1)) w) := by
  obtain ⟨i0, hi, hz0, hz1, hz2⟩ := info_parts info_act18
  have HREF := hide (show ∀ W host T, Only [] w W → host < rs.length → T ≤ 9223372036854775807 → _ from fun W host T ho hh hT => ref_at W N M mv rv m rs host T (hm.only ho (by simp)) (hr.only ho (by simp)) hrl hll hj hh hT)
  obtain ⟨Am, cm, rfl, _, _⟩ := hm.form
  obtain ⟨A, cap, rfl, hcap, hmx⟩ := hr.1.form
  unfold maxLen at hmx
  generalize m.length = nm at *
  obtain ⟨n, hn⟩ : ∃ n, n = rs.length := ⟨_, rfl⟩
  have HN := hide hn
  have HN8 := hide hn8
  rw [← hn] at hcap hn8 ⊢
  rw [← hn] at HREF
  clear hm hr hrl hll hj hn
  have HOW0 := hide (show OwnA 68 w.heap.size (.slice (some ⟨w.heap.size, 0, none⟩) 0 0) (planK m rs 0) (w.alloc (.cells #[] 68)) from ⟨rfl, .inr ⟨w.heap.size, 0, #[], rfl, Nat.le_refl _, heap_alloc_new w _, Nat.le_refl _, Nat.zero_le _, rfl, rfl⟩⟩)
  have HO0 := hide ((Only.refl [] w).alloc (.cells #[] 68))
  go_enter Try.func27, Try.ntmps27
  go_wp2_with fail
  go_loopw [8, 7] (fun s v wr => ∃ t : Nat, t ≤ U + 1 ∧ s = .int .i64 t ∧ Hid (OwnA 68 w.heap.size v (planK m rs t) wr) ∧ Hid (Only [] w wr)) (fun s _ _ => U + 1 - (intOf s).toNat)
  case atStart => exact ⟨0, Nat.zero_le _, rfl, HOW0, HO0⟩
  case round =>
    obtain ⟨t, ht, rfl, hout, ho⟩ := hrel
    by_cases hlu : t ≤ U
    · have hlu' : (t : Int) ≤ U := by omega
      by_cases h0 : t = 0
      · subst h0
        have HST := hide (show OwnA 68 w.heap.size _ (partV m rs 0 0) wr from by rw [part_start0]; exact hout.out)
        have HSO := ho
        simp only [show ((0 : Nat) : Int) = 0 from rfl] at hlu' ⊢
        go_wp2_with fail
        go_loopw [9, 7] (fun i v wr => ∃ k : Nat, k ≤ n ∧ i = .int .i64 k ∧ Hid (OwnA 68 w.heap.size v (partV m rs (0 : Nat) k) wr) ∧ Hid (Only [] w wr)) (fun i _ _ => n - (intOf i).toNat)
        case atStart => exact ⟨0, Nat.zero_le _, rfl, HST, HSO⟩
        case round =>
          obtain ⟨k, hk, rfl, how, ho⟩ := hrel
          by_cases hlt : k < n
          · have hlt' : (k : Int) < n := by omega
            have HPL := hide (part_len m rs HN8.out (0 : Nat) k)
            have hpl := HPL.out
            have HAT := hide (show ∀ W (T : Nat), T ≤ 1000 → Only [] w W → _ from fun W T hT hW => HREF.out W k T hW hlt (by omega))
            unfold NumPost at HAT
            obtain ⟨Av, cv, rfl, _, _⟩ := ownA_form how.out
            generalize hpn : (partV m rs (0 : Nat) k).length = pn at *
            have HPN := hide hpn
            clear hpn
            have HCH := hide (chg_zero m rs k)
            have HPC := hide (part_chg HCH.out)
            unfold moveV nearAt at HPC
            replace HAT := hide (fun W (h : Only [] w W) => HAT.out W 0 (by omega) h)
            simp only [show ((0 : Nat) : Int) = 0 from rfl] at HAT
            generalize nearV m (atV (rs.getD k zr).1 (rs.getD k zr).2.2 0) = y at *
            have hown := how.out
            unfold OwnA at hown
            rw [HPN.out] at hown
            have HOWN := hide hown
            clear hown
            go_wp2_with (first
              | (go_at_call 26; refine (HAT.out _ ho.out).mono ?_; rintro e w2 ⟨rfl, ho2⟩; have HO2 := hide ((ho.out.trans ho2).alloc (.cells #[.int .i64 6, .int .i64 (k : Nat), .int .i64 0, .int .i64 (8 * (y : Nat) + (k : Nat) + 1), .slice none 0 0] 68)); have HOW2 := hide (World.ownsRow.alloc (own_only HOWN.out ho2 (by simp)) (.cells #[.int .i64 6, .int .i64 (k : Nat), .int .i64 0, .int .i64 (8 * (y : Nat) + (k : Nat) + 1), .slice none 0 0] 68)); have HRN := hide (reads_new w2 68 (acC (6, (k : Int), 0, 8 * ((y : Nat) : Int) + k + 1)) (w2.heap.size + 1) 5 rfl (by omega)); clear ho2)
              | (at_builtin; refine wpList_append_any _ rfl (.tmp 44) (.tmp 52) 63 rfl w.heap.size 68 i0 (.agg #[.int .i64 0, .int .i64 0, .int .i64 0, .int .i64 0, .slice none 0 0]) 5 56 Try.underlying63 hi hz0 hz1 hz2 rfl (by decide) _ pn _ rfl HOW2.out (w2.heap.size + 1) (some ⟨w2.heap.size, 0, none⟩) 1 1 (acC (6, (k : Int), 0, 8 * ((y : Nat) : Int) + k + 1)) rfl HRN.out (by simp [acC, Value.oneCell']) (by unfold maxLen; omega) (by omega) HO2.out.size ?_; intro v1 w3 hown1 hg1 _; have HOW3 := hide (ownA_snoc (by rw [HPN.out]; exact hown1)); have HO3 := hide (HO2.out.grown hg1 (fun j hj => .inr (own_block_ge HOW2.out hj))); clear hown1 hg1))
            go_roundw
            case rel => exact ⟨k + 1, by omega, by go_num, hide (by rw [HPC.out]; exact HOW3.out), HO3⟩
            case measure => simp [intOf] <;> omega
          · have hlt' : ¬ (k : Int) < n := by omega
            obtain rfl : k = n := by omega
            go_wp2_with fail
            go_roundw
            case rel => exact ⟨0 + 1, by omega, by go_num, hide (by rw [← part_full, ← HN.out]; exact how.out), ho⟩
            case measure => simp [intOf] <;> omega
      · obtain ⟨t, rfl⟩ : ∃ u, t = u + 1 := ⟨t - 1, by omega⟩
        have h0' : (0 : Int) < ((t + 1 : Nat) : Int) := by omega
        clear h0
        have HPL0 := hide (plan_len m rs HN8.out (t + 1))
        have hpl0 := HPL0.out
        obtain ⟨Av, cv, rfl, _, _⟩ := ownA_form hout.out
        generalize hpn0 : (planK m rs (t + 1)).length = pn0 at *
        have hown := hout.out
        unfold OwnA at hown
        rw [hpn0] at hown
        have HPN0 := hide hpn0
        clear hpn0
        have HOW2 := hide (World.ownsRow.alloc hown (.cells #[.int .i64 5, .int .i64 0, .int .i64 1000, .int .i64 0, .slice none 0 0] 68))
        have HO2 := hide (ho.out.alloc (.cells #[.int .i64 5, .int .i64 0, .int .i64 1000, .int .i64 0, .slice none 0 0] 68))
        have HRN := hide (reads_new wr 68 (acC waitV) (wr.heap.size + 1) 5 rfl (by omega))
        clear hown hout ho
        go_wp2_with (at_builtin; refine wpList_append_any _ rfl (.tmp 18) (.tmp 20) 63 rfl w.heap.size 68 i0 (.agg #[.int .i64 0, .int .i64 0, .int .i64 0, .int .i64 0, .slice none 0 0]) 5 56 Try.underlying63 hi hz0 hz1 hz2 rfl (by decide) _ pn0 _ rfl HOW2.out (wr.heap.size + 1) (some ⟨wr.heap.size, 0, none⟩) 1 1 (acC waitV) rfl HRN.out (by simp [acC, Value.oneCell']) (by unfold maxLen; omega) (by omega) HO2.out.size ?_; intro v1 w3 hown1 hg1 _; have HOW3 := hide (ownA_snoc (by rw [HPN0.out]; exact hown1)); have HO3 := hide (HO2.out.grown hg1 (fun j hj => .inr (own_block_ge HOW2.out hj))); clear hown1 hg1)
        have HST := hide (show OwnA 68 w.heap.size v1 (partV m rs (t + 1) 0) w3 from by rw [part_start m rs (t + 1) (by omega)]; exact HOW3.out)
        have HSO := HO3
        clear HOW3 HO3 HRN HO2 HOW2
        go_loopw [9, 7] (fun i v wr => ∃ k : Nat, k ≤ n ∧ i = .int .i64 k ∧ Hid (OwnA 68 w.heap.size v (partV m rs (t + 1) k) wr) ∧ Hid (Only [] w wr)) (fun i _ _ => n - (intOf i).toNat)
        case atStart => exact ⟨0, Nat.zero_le _, rfl, HST, HSO⟩
        case round =>
          obtain ⟨k, hk, rfl, how, ho⟩ := hrel
          by_cases hlt : k < n
          · have hlt' : (k : Int) < n := by omega
            have HPL := hide (part_len m rs HN8.out (t + 1) k)
            have hpl := HPL.out
            have HAT := hide (show ∀ W (T : Nat), T ≤ 1000 → Only [] w W → _ from fun W T hT hW => HREF.out W k T hW hlt (by omega))
            unfold NumPost at HAT
            obtain ⟨Av, cv, rfl, _, _⟩ := ownA_form how.out
            generalize hpn : (partV m rs (t + 1) k).length = pn at *
            have HPN := hide hpn
            clear hpn
            have HAT1 := hide (fun W (h : Only [] w W) => HAT.out W (t + 1) (by omega) h)
            have HAT0 := hide (fun W (h : Only [] w W) => HAT.out W t (by omega) h)
            clear HAT
            have HCS := hide (chg_succ m rs t k)
            unfold nearAt at HCS
            have HMV := hide (show moveV m rs (t + 1) k = (6, (k : Int), 0, 8 * ((nearV m (atV (rs.getD k zr).1 (rs.getD k zr).2.2 (t + 1)) : Nat) : Int) + k + 1) from rfl)
            generalize nearV m (atV (rs.getD k zr).1 (rs.getD k zr).2.2 (t + 1)) = y at *
            generalize nearV m (atV (rs.getD k zr).1 (rs.getD k zr).2.2 t) = z at *
            have hown := how.out
            unfold OwnA at hown
            rw [HPN.out] at hown
            have HOWN := hide hown
            clear hown
            have hs0 : (((t : Nat) : Int) + 1 == 0) = false := by rw [beq_eq_false_iff_ne]; omega
            have HAT2 := HAT0
            rw [show ((t : Nat) : Int) = ((t : Nat) : Int) + 1 - 1 from by omega] at HAT2
            rw [show ((t + 1 : Nat) : Int) = (t : Int) + 1 from by omega] at HAT1
            by_cases hyz : y = z
            · subst hyz
              have HPC := hide (part_same (by rw [HCS.out]; simp))
              have hne : ((8 * ((y : Nat) : Int) + (k : Int) + 1) != (8 * ((y : Nat) : Int) + (k : Int) + 1)) = false := by simp
              go_wp2_with (go_at_call 26; first | (with_reducible refine (HAT1.out _ ho.out).mono ?_; rintro e w4 ⟨rfl, ho4⟩; replace HOWN := hide (own_only HOWN.out ho4 (by simp)); replace ho := hide (ho.out.trans ho4); clear ho4) | (with_reducible refine (HAT0.out _ ho.out).mono ?_; rintro e w5 ⟨rfl, ho5⟩; replace HOWN := hide (own_only HOWN.out ho5 (by simp)); replace ho := hide (ho.out.trans ho5); clear ho5) | (with_reducible refine (HAT2.out _ ho.out).mono ?_; rintro e w5 ⟨rfl, ho5⟩; replace HOWN := hide (own_only HOWN.out ho5 (by simp)); replace ho := hide (ho.out.trans ho5); clear ho5))
              go_roundw
              case rel => exact ⟨k + 1, by omega, by go_num, hide (by rw [HPC.out]; unfold OwnA; rw [HPN.out]; exact HOWN.out), ho⟩
              case measure => simp [intOf] <;> omega
            · have HPC := hide (part_chg (m := m) (rs := rs) (t := t + 1) (k := k) (by rw [HCS.out]; exact decide_eq_true hyz))
              rw [HMV.out] at HPC
              have hne : ((8 * ((y : Nat) : Int) + (k : Int) + 1) != (8 * ((z : Nat) : Int) + (k : Int) + 1)) = true := by rw [bne_iff_ne]; omega
              clear hyz
              go_upto_region 11 with (go_at_call 26; first | (with_reducible refine (HAT1.out _ ho.out).mono ?_; rintro e w4 ⟨rfl, ho4⟩; replace HOWN := hide (own_only HOWN.out ho4 (by simp)); replace ho := hide (ho.out.trans ho4); clear ho4) | (with_reducible refine (HAT0.out _ ho.out).mono ?_; rintro e w5 ⟨rfl, ho5⟩; replace HOWN := hide (own_only HOWN.out ho5 (by simp)); replace ho := hide (ho.out.trans ho5); clear ho5) | (with_reducible refine (HAT2.out _ ho.out).mono ?_; rintro e w5 ⟨rfl, ho5⟩; replace HOWN := hide (own_only HOWN.out ho5 (by simp)); replace ho := hide (ho.out.trans ho5); clear ho5))
              go_wp2_with (first
                | (go_at_call 26; refine (HAT1.out _ ho.out).mono ?_; rintro e w2 ⟨rfl, ho2⟩; have HO2 := hide ((ho.out.trans ho2).alloc (.cells #[.int .i64 6, .int .i64 (k : Nat), .int .i64 0, .int .i64 (8 * (y : Nat) + (k : Nat) + 1), .slice none 0 0] 68)); have HOW2 := hide (World.ownsRow.alloc (own_only HOWN.out ho2 (by simp)) (.cells #[.int .i64 6, .int .i64 (k : Nat), .int .i64 0, .int .i64 (8 * (y : Nat) + (k : Nat) + 1), .slice none 0 0] 68)); have HRN := hide (reads_new w2 68 (acC (6, (k : Int), 0, 8 * ((y : Nat) : Int) + k + 1)) (w2.heap.size + 1) 5 rfl (by omega)); clear ho2)
                | (at_builtin; refine wpList_append_any _ rfl (.tmp 44) (.tmp 52) 63 rfl w.heap.size 68 i0 (.agg #[.int .i64 0, .int .i64 0, .int .i64 0, .int .i64 0, .slice none 0 0]) 5 56 Try.underlying63 hi hz0 hz1 hz2 rfl (by decide) _ pn _ rfl HOW2.out (w2.heap.size + 1) (some ⟨w2.heap.size, 0, none⟩) 1 1 (acC (6, (k : Int), 0, 8 * ((y : Nat) : Int) + k + 1)) rfl HRN.out (by simp [acC, Value.oneCell']) (by unfold maxLen; omega) (by omega) HO2.out.size ?_; intro v1 w3 hown1 hg1 _; have HOW3 := hide (ownA_snoc (by rw [HPN.out]; exact hown1)); have HO3 := hide (HO2.out.grown hg1 (fun j hj => .inr (own_block_ge HOW2.out hj))); clear hown1 hg1))
              go_roundw
              case rel => exact ⟨k + 1, by omega, by go_num, hide (by rw [HPC.out]; exact HOW3.out), HO3⟩
              case measure => simp [intOf] <;> omega
          · have hlt' : ¬ (k : Int) < n := by omega
            obtain rfl : k = n := by omega
            go_wp2_with fail
            go_roundw
            case rel => exact ⟨(t + 1) + 1, by omega, by go_num, hide (by rw [← part_full, ← HN.out]; exact how.out), ho⟩
            case measure => simp [intOf] <;> omega
    · have hlu' : ¬ (t : Int) ≤ U := by omega
      obtain rfl : t = U + 1 := by omega
      have HR := hide (ownA_rds (N := []) hout.out (by simp))
      go_wp2_with fail
      go_ret
      exact ⟨_, rfl, HR.out, ho.out⟩
end
end Go.Proofs.Yteoifokmbkpbnaa

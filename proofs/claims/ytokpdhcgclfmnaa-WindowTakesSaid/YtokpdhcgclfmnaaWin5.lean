/-
  The window as a list: Missing, Clone; the law's own example.
-/
import Derived.Test.YtokpdhcgclfmnaaWin4
import Derived.Test.YtokpdhcgclfmnaaMiss
namespace Go.Proofs.Ytokpdhcgclfmnaa
open Go.RowKit Go.Deep

set_option maxRecDepth 100000 in
theorem winset_missing (w : World) (b : Nat) (L : List Nat) (hw : WinSet w b L) :
    Calls Try.prog 27 #[.pointer (some ⟨b, 0, none⟩)] w fun e w' => e = .returned (.int .i64 (missL L)) ∧ w = w' := by
  obtain ⟨B, h, hlt, hnd, hB⟩ := hw
  have h1 := h.top_
  have h2 := h.some_
  by_cases k : L = []
  · subst k
    have e : decide (([] : List Nat) ≠ []) = false := by simp
    rw [e] at h2
    rw [show missL [] = 0 from rfl]
    clear e hB hlt hnd h h1
    go_enter Try.func27, Try.ntmps27
    go_wp2
    go_ret
    exact ⟨rfl, rfl⟩
  have HE := hide (fun kk hk => miss_eq L k hnd kk hk)
  have hmx := maxL_lt 18446744073709543423 (by omega) L hlt
  have HB := hide hB
  have HWI := hide h
  have e : decide (L ≠ []) = true := by simpa using k
  rw [e] at h2 HWI
  clear e hB hlt hnd h k
  generalize maxL L = t at h1 HE HB HWI hmx
  have ht64 : t < 18446744073709551616 := by omega
  have HT64 := hide ht64
  have htI : (t : Int) ≤ 18446744073709551615 := by omega
  clear hmx ht64
  go_enter Try.func27, Try.ntmps27
  go_wp2_with fail
  go_loop [3, 14] (fun c i => ∃ k : Nat, k ≤ 2048 ∧ k ≤ t + 1 ∧ i = .int .u64 k ∧ c = .int .i64 (cntM t L k : Nat)) (fun _ i => 2048 - (intOf i).toNat)
  case atStart => exact ⟨0, Nat.zero_le _, Nat.zero_le _, rfl, rfl⟩
  case round =>
    obtain ⟨k, hk, hkt, rfl, rfl⟩ := hrel
    have hcl := cntM_le t L k
    rcases Nat.lt_or_ge k 2048 with hlt | hge
    case inr =>
      have hi : ¬ (k : Int) < 2048 := by omega
      have HF := hide (HE.out k (by omega))
      clear hge
      go_wp2
      go_ret
      exact ⟨by rw [← HF.out]; rfl, rfl⟩
    case inl =>
      have hi : (k : Int) < 2048 := by omega
      rcases Nat.lt_or_ge t k with hlt2 | hge2
      case inl =>
        have hi2 : (t : Int) < k := by omega
        have HF := hide (HE.out k (by omega))
        clear hlt2 hlt
        go_wp2
        go_ret
        exact ⟨by rw [← HF.out]; rfl, rfl⟩
      case inr =>
        have hi2 : ¬ (t : Int) < k := by omega
        have hi3 : (k : Int) ≤ t := by omega
        have ek := hide (show ((t - k : Nat) : Int) = (t : Int) - k by omega)
        have hb := HB.out (t - k) (by omega) (by omega)
        have HM := hide (cntM_succ t L k)
        generalize cntM t L k = q at HM hcl ⊢
        by_cases hm : t - k ∈ L
        · rw [decide_eq_true hm] at hb
          have HM' := hide (show cntM t L (k + 1) = q by rw [HM.out, if_pos hm, Nat.add_zero])
          have HH := hide (winis_has w b B t true (t - k) HWI.out (by have := HT64.out; omega))
          rw [hb, ek.out] at HH
          clear HM hm hb
          go_wp2_with (go_at_call 38; refine HH.out.mono ?_; rintro e w' ⟨rfl, rfl⟩)
          go_round
          case rel => exact ⟨k + 1, by omega, by omega, by go_num, by rw [HM'.out]⟩
          case measure => simp [intOf]; omega
        · rw [decide_eq_false hm] at hb
          have HM' := hide (show cntM t L (k + 1) = q + 1 by rw [HM.out, if_neg hm])
          have HH := hide (winis_has w b B t true (t - k) HWI.out (by have := HT64.out; omega))
          rw [hb, ek.out] at HH
          clear HM hm hb
          go_wp2_with (go_at_call 38; refine HH.out.mono ?_; rintro e w' ⟨rfl, rfl⟩)
          go_round
          case rel => exact ⟨k + 1, by omega, by omega, by go_num, by rw [HM'.out]; go_num⟩
          case measure => simp [intOf]; omega

theorem winCells_one (ws : List Nat) (top : Nat) (sm : Bool) : (winCells ws top sm).toArray.all (·.oneCell') = true := by
  rw [Array.all_eq_true_iff_forall_mem]
  intro v hv
  rw [List.mem_toArray] at hv
  unfold winCells at hv
  rcases List.mem_append.1 hv with h | h
  · obtain ⟨n, _, rfl⟩ := List.mem_map.1 h; rfl
  · rcases List.mem_cons.1 h with rfl | h
    · rfl
    · have : v = .bool sm := by simpa using h
      rw [this]; rfl

theorem Try.isz64 : (Try.prog.info? 64).map (·.size) = some 34 := by kernel_rfl

set_option maxRecDepth 100000 in
theorem winset_clone (w : World) (b : Nat) (L : List Nat) (hw : WinSet w b L) :
    Calls Try.prog 28 #[.pointer (some ⟨b, 0, none⟩)] w fun e w' => ∃ b', e = .returned (.pointer (some ⟨b', 0, none⟩)) ∧ WinSet w' b' L ∧ Only [] w w' ∧ w.heap.size ≤ b' := by
  obtain ⟨B, ⟨ws, hwa, hbits⟩, hlt, hnd, hB⟩ := hw
  have hsz : (winCells ws (maxL L) (decide (L ≠ []))).toArray.size = 34 := by rw [List.size_toArray, winCells_size _ _ _ hwa.2.1]
  have HL := hide (show w.heap[b]? = some (.cells (winCells ws (maxL L) (decide (L ≠ []))).toArray 64 (0, 0)) from hwa.1)
  have HI := hide (show (Try.prog.info? 64).map (·.size) = some (winCells ws (maxL L) (decide (L ≠ []))).toArray.size by rw [hsz]; exact Try.isz64)
  have H1 := hide (winCells_one ws (maxL L) (decide (L ≠ [])))
  have HSZ := hide hsz
  have HFIN := hide (fun (w' : World) (b' : Nat) (h : Blk w' b' 64 (winCells ws (maxL L) (decide (L ≠ []))).toArray) => (⟨B, ⟨ws, ⟨h, hwa.2⟩, hbits⟩, hlt, hnd, hB⟩ : WinSet w' b' L))
  clear hbits hlt hnd hB hsz hwa
  generalize (winCells ws (maxL L) (decide (L ≠ []))).toArray = cs at HL HI H1 HSZ HFIN
  go_enter Try.func28, Try.ntmps28
  go_wp2_with (first
    | (refine wpList_load_row rfl 64 (.tmp 7) rfl b rfl 64 cs (0, 0) _ HL.out Try.underlying64 rfl HI.out ?_)
    | (refine wpList_store_row rfl 64 (.tmp 3) (.tmp 8) rfl w.heap.size cs rfl rfl 64 _ (heap_alloc_new w _) HI.out (by rw [HSZ.out]; rfl) H1.out ?_))
  go_ret
  exact ⟨w.heap.size, rfl, HFIN.out _ _ (setRow_heap _ _ _ _ _ _ (heap_alloc_new w _)), ((Only.refl _ _).alloc _).setRow (.inr (Nat.le_refl _)) _, Nat.le_refl _⟩

theorem winset_take_at (w : World) (b : Nat) (L L' : List Nat) (c : Nat) (r : Int) (hw : WinSet w b L) (hc : c < 18446744073709551616) (hr : wouldL L c = r) (hl : takeL L c = L') :
    Calls Try.prog 25 #[.pointer (some ⟨b, 0, none⟩), .int .u64 c] w fun e w' => e = .returned (.int .i64 r) ∧ WinSet w' b L' ∧ Only [b] w w' := by
  rw [← hr, ← hl]
  exact winset_take w b L c hw hc

theorem awake07 (w : World) :
    Calls Try.prog 23 #[] w fun e w' => e = .returned (.bool true) ∧ Only [] w w' := by
  go_enter Try.func23, Try.ntmps23
  go_wp2_with (go_at_call 24; refine (win_new _).mono ?_; rintro e w1 ⟨b, rfl, hw1, ho1, hb⟩; have HW1 := hide (WinSet.new hw1); have HO1 := hide (ho1.mono (S' := [b]) (by simp)); clear hw1 ho1)
  refine (winset_take_at _ b [] [5] 5 0 HW1.out (by decide) (by decide) (by decide)).mono ?_
  rintro e w2 ⟨rfl, hw, ho⟩
  have HW2 := hide hw
  have HO2 := hide (HO1.out.trans ho)
  clear hw ho
  go_wp2_with fail
  refine (winset_take_at _ b [5] [5, 3] 3 0 HW2.out (by decide) (by decide) (by decide)).mono ?_
  rintro e w3 ⟨rfl, hw, ho⟩
  have HW3 := hide hw
  have HO3 := hide (HO2.out.trans ho)
  clear hw ho
  go_wp2_with fail
  refine (winset_take_at _ b [5, 3] [5, 3] 5 9 HW3.out (by decide) (by decide) (by decide)).mono ?_
  rintro e w4 ⟨rfl, hw, ho⟩
  have HW4 := hide hw
  have HO4 := hide (HO3.out.trans ho)
  clear hw ho
  go_wp2_with fail
  refine (winset_take_at _ b [5, 3] [5, 3, 2052] 2052 0 HW4.out (by decide) (by decide) (by decide)).mono ?_
  rintro e w5 ⟨rfl, hw, ho⟩
  have HW5 := hide hw
  have HO5 := hide (HO4.out.trans ho)
  clear hw ho
  go_wp2_with fail
  refine (winset_take_at _ b [5, 3, 2052] [5, 3, 2052] 4 9 HW5.out (by decide) (by decide) (by decide)).mono ?_
  rintro e w6 ⟨rfl, hw, ho⟩
  have HW6 := hide hw
  have HO6 := hide (HO5.out.trans ho)
  clear hw ho
  go_wp2_with fail
  refine (winset_take_at _ b [5, 3, 2052] [5, 3, 2052, 6] 6 0 HW6.out (by decide) (by decide) (by decide)).mono ?_
  rintro e w7 ⟨rfl, hw, ho⟩
  have HW7 := hide hw
  have HO7 := hide (HO6.out.trans ho)
  clear hw ho
  go_wp2_with fail
  go_ret
  exact ⟨rfl, HO7.out.mono (fun x hx => .inr (by simp at hx; omega))⟩
end Go.Proofs.Ytokpdhcgclfmnaa

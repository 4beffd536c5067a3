/-
  Walks and plain words (texts Rfm). No condition beyond those that each theorem states.
-/
import Derived.Test.YthecnaclfhfilaaDoorA14
namespace Go.Proofs.YthecnaclfhfilaaDoor
section
open Go.RowKit Go.Deep

set_option maxRecDepth 100000 in
set_option maxHeartbeats 12800000 in
theorem refReadPrefix_any (w : World) (s : ByteArray) (hs : s.size ≤ 1000000) : Calls Tryd.prog 9 #[.string s] w (RPPost (refP s) w) := by
  have HO := hide ((Only.refl [] w).alloc (.cells #[.slice none 0 0, .int .i64 0] 30))
  have HBR := hide (Blk.new w 30 #[.slice none 0 0, .int .i64 0])
  have HC := HO
  go_enter Tryd.func9, Tryd.ntmps9
  go_wp2_with fail
  obtain ⟨w0, hw0⟩ : ∃ w0, w0 = w.alloc (.cells #[.slice none 0 0, .int .i64 0] 30) := ⟨_, rfl⟩
  rw [← hw0] at HO HBR HC ⊢
  have HLT := hide HBR.out.lt
  clear hw0
  go_loop [4] (fun i => ∃ k : Nat, k ≤ s.size ∧ i = .int .i64 k ∧ Hid (∀ b ∈ s.data.toList.take k, ¬ b = 47)) (fun i => s.size - (intOf i).toNat)
  case atStart => exact ⟨0, Nat.zero_le _, rfl, hide (by simp)⟩
  case round =>
    obtain ⟨k, hk, rfl, hno⟩ := hrel
    by_cases hlt : k < s.size
    · have hltI : (k : Int) < s.size := by omega
      have hkn : ((k : Int) == s.size) = false := by rw [beq_eq_false_iff_ne]; omega
      have hkn2 : (k == s.size) = false := by rw [beq_eq_false_iff_ne]; omega
      by_cases h47 : s[k].toNat = 47
      · have hn1 : ((s[k].toNat : Int) != 47) = false := by rw [h47]; rfl
        have hn2 : (s[k].toNat != 47) = false := by rw [h47]; rfl
        have hval := refP_some (s := s) (k := k) hlt hno.out (UInt8.toNat_inj.1 h47)
        obtain ⟨X, hX⟩ : ∃ X : ByteArray, X = s.extract 0 k := ⟨_, rfl⟩
        obtain ⟨Y, hY⟩ : ∃ Y : ByteArray, Y = s.extract (k + 1) s.size := ⟨_, rfl⟩
        have HXE := hide hX
        have HYE := hide hY
        rw [← hX, ← hY] at hval
        clear h47
        have HVX := hide hval
        have hx : X.size ≤ 1000000 := by rw [hX, ByteArray.size_extract]; omega
        have hy : Y.size ≤ 1000000 := by rw [hY, ByteArray.size_extract]; omega
        have HRA := hide (fun W => refRead_any W X hx)
        have HRB := hide (fun W => read_ref W Y hy)
        unfold RRPost at HRA
        unfold NumRPost' at HRB
        unfold refP2 at HVX
        have hu := numR_lt Y.data.toList
        generalize numR Y.data.toList = rr at *
        obtain ⟨u, d⟩ := rr
        simp only at HRB HVX hu
        generalize refR X = ra at *
        rw [hX] at HRA
        rw [hY] at HRB
        clear hX hY
        cases ra with
        | none =>
          have HVAL := hide (show refP s = none from HVX.out)
          simp only at HRA
          go_wp2_with (first
            | (go_at_call 7; with_reducible refine (HRA.out _).mono ?_; rintro e w2 ⟨rfl, ho⟩; have HC := hide (HO.out.trans ho); have HBR := hide (HBR.out.only ho (by simp)); clear ho)
            | (go_at_call 24; with_reducible refine (HRB.out _).mono ?_; rintro e w3 ⟨rfl, rfl⟩; have c0 := HBR.out.cell 0; have c1 := HBR.out.cell 1; simp at c0 c1; have hf0 := HBR.out.frozen 0; have hf1 := HBR.out.frozen 1))
          have HF := hide (((HBR.out.set_ 0 (.slice none 0 0)).set_ 1 (.int .i64 0)))
          refine bodyPost_ret (results_cell_two rfl _ _ w.heap.size 30 _ (0, 0) _ rfl HF.out Tryd.underlying30 rfl (by kernel_rfl)) rfl ?_
          rw [HVAL.out]
          exact ⟨rfl, (HC.out.setCell (p := ⟨w.heap.size, 0, none⟩) (.inr (by simp)) _).setCell (p := ⟨w.heap.size, 1, none⟩) (.inr (by simp)) _⟩
        | some la =>
          simp only at HRA
          have hval := HVX.out
          simp only at hval
          by_cases hd : d = 0
          · subst hd
            simp only [show ((0 : Nat) : Int) = 0 from rfl] at HRB
            by_cases h128 : u ≤ 128
            · have h128I : ¬ (128 : Int) < (u : Int) := by omega
              cases hr : rightV la u with
              | false =>
                have HVAL := hide (show refP s = none by rw [hval, hr]; exact if_neg (by simp))
                have HSAME := hide (show True from trivial)
                have HU8 := HSAME
                have HU1 := HSAME
                clear hval HVX
                have FR := hide (show rightN la.length (u : Int) = false from hr)
                clear hr
                go_upto_region 11 with (first
                  | (go_at_call 7; with_reducible refine (HRA.out _).mono ?_; rintro e w2 ⟨v, rfl, ho, hr⟩; have HV := hide (hr [w.heap.size] (by simpa using HLT.out)); obtain ⟨A, cap, rfl, _, _⟩ := HV.out.formb; have HC := hide (HO.out.trans ho); have HBR := hide (HBR.out.only ho (by simp)); clear ho hr)
                  | (go_at_call 24; with_reducible refine (HRB.out _).mono ?_; rintro e w3 ⟨rfl, rfl⟩; have HQ := hide (Blk.new w2 30 #[.slice A la.length cap, .int .i64 u]); have HC := hide (HC.out.alloc (.cells #[.slice A la.length cap, .int .i64 u] 30)); have HBR := hide (HBR.out.alloc (.cells #[.slice A la.length cap, .int .i64 u] 30)); have HV := hide (HV.out.only ((Only.refl [] w2).alloc (.cells #[.slice A la.length cap, .int .i64 u] 30)) (by simp))))
                generalize w2.alloc (.cells #[.slice A la.length cap, .int .i64 u] 30) = w4 at *
                generalize w2.heap.size = Q at *
                have q0 := HQ.out.cell 0
                have q1 := HQ.out.cell 1
                simp at q0 q1
                refine wp_region_held_drew (S := (fun w' => w'.cell? ⟨Q, 0, none⟩ = some (.slice A la.length cap) ∧ w'.cell? ⟨Q, 1, none⟩ = some (.int .i64 u))) (by kernel_rfl) (by exact ⟨q0, q1⟩) (fun hHeld => ?_)
                refine wpAnyH_take (i := 0) (v := ?_) rfl (by kernel_rfl) (by kernel_rfl) (by kernel_rfl) (fun _ _ _ h => h) (Or.inl ⟨by rfl, ?_⟩) (by assumption) ?_
                rotate_left
                · (intro w hSw; (try dsimp only at hSw); go_simp; try with_reducible rfl)
                try simp only [List.getElem_toArray, List.getElem_cons_succ, List.getElem_cons_zero, Act.put, List.setIfInBounds_toArray, List.set_cons_zero, List.set_cons_succ]
                refine wpAnyH_ready (rs := [1]) (by kernel_rfl) (by simp) ?_
                refine AllReadyH.cons rfl (fun K hK => ?_) AllReadyH.nil
                go_simp
                go_at_call 15; refine (refright_any _ _ _ _ false FR.out _).mono ?_; rintro e w9 ⟨rfl, ho⟩; (first | (have ho := undrew ho) | skip); have HC := hide (HC.out.trans ho); have HV := hide (HV.out.only ho (by simp)); have HBR := hide (HBR.out.only ho (by simp)); have HQ := hide (HQ.out.only ho (by simp)); have q0 := HQ.out.cell 0; have q1 := HQ.out.cell 1; simp at q0 q1; (first | (have HRS := hide (HRS.out.only ho (by simp))) | skip); clear ho
                refine hK.out _ _ (by exact ⟨q0, q1⟩) (fun hHeld => ?_)
                clear hK K
                try simp only [List.getElem_toArray, List.getElem_cons_succ, List.getElem_cons_zero, Act.put, List.setIfInBounds_toArray, List.set_cons_zero, List.set_cons_succ]
                refine wpAnyH_take (i := 2) (v := ?_) rfl (by kernel_rfl) (by kernel_rfl) (by kernel_rfl) (fun _ _ _ h => h) (Or.inl ⟨by rfl, ?_⟩) (by assumption) ?_
                rotate_left
                · (intro w hSw; (try dsimp only at hSw); go_simp; try with_reducible rfl)
                try simp only [List.getElem_toArray, List.getElem_cons_succ, List.getElem_cons_zero, Act.put, List.setIfInBounds_toArray, List.set_cons_zero, List.set_cons_succ]
                refine wpAnyH_take (i := 3) (v := ?_) rfl (by kernel_rfl) (by kernel_rfl) (by kernel_rfl) (fun _ _ _ h => h) (Or.inl ⟨by rfl, ?_⟩) (by assumption) ?_
                rotate_left
                · (intro w hSw; (try dsimp only at hSw); go_simp; try with_reducible rfl)
                try simp only [List.getElem_toArray, List.getElem_cons_succ, List.getElem_cons_zero, Act.put, List.setIfInBounds_toArray, List.set_cons_zero, List.set_cons_succ]
                refine wpAnyH_take (i := 4) (v := undef) rfl (by kernel_rfl) (by kernel_rfl) (by kernel_rfl) (fun _ _ _ h => h) (Or.inr ⟨by rfl, rfl⟩) (by assumption) ?_
                try simp only [List.getElem_toArray, List.getElem_cons_succ, List.getElem_cons_zero, Act.put, List.setIfInBounds_toArray, List.set_cons_zero, List.set_cons_succ]
                refine wpAnyH_take (i := 5) (v := undef) rfl (by kernel_rfl) (by kernel_rfl) (by kernel_rfl) (fun _ _ _ h => h) (Or.inr ⟨by rfl, rfl⟩) (by assumption) ?_
                try simp only [List.getElem_toArray, List.getElem_cons_succ, List.getElem_cons_zero, Act.put, List.setIfInBounds_toArray, List.set_cons_zero, List.set_cons_succ]
                refine wpAnyH_take (i := 6) (v := undef) rfl (by kernel_rfl) (by kernel_rfl) (by kernel_rfl) (fun _ _ _ h => h) (Or.inr ⟨by rfl, rfl⟩) (by assumption) ?_
                try simp only [List.getElem_toArray, List.getElem_cons_succ, List.getElem_cons_zero, Act.put, List.setIfInBounds_toArray, List.set_cons_zero, List.set_cons_succ]
                refine wpAnyH_take (i := 7) (v := undef) rfl (by kernel_rfl) (by kernel_rfl) (by kernel_rfl) (fun _ _ _ h => h) (Or.inr ⟨by rfl, rfl⟩) (by assumption) ?_
                try simp only [List.getElem_toArray, List.getElem_cons_succ, List.getElem_cons_zero, Act.put, List.setIfInBounds_toArray, List.set_cons_zero, List.set_cons_succ]
                refine wpAnyH_take (i := 8) (v := undef) rfl (by kernel_rfl) (by kernel_rfl) (by kernel_rfl) (fun _ _ _ h => h) (Or.inr ⟨by rfl, rfl⟩) (by assumption) ?_
                try simp only [List.getElem_toArray, List.getElem_cons_succ, List.getElem_cons_zero, Act.put, List.setIfInBounds_toArray, List.set_cons_zero, List.set_cons_succ]
                refine wpAnyH_take (i := 9) (v := ?_) rfl (by kernel_rfl) (by kernel_rfl) (by kernel_rfl) (fun _ _ _ h => h) (Or.inl ⟨by rfl, ?_⟩) (by assumption) ?_
                rotate_left
                · (intro w hSw; (try dsimp only at hSw); go_simp; try with_reducible rfl)
                try simp only [List.getElem_toArray, List.getElem_cons_succ, List.getElem_cons_zero, Act.put, List.setIfInBounds_toArray, List.set_cons_zero, List.set_cons_succ]
                refine wpAnyH_done (by kernel_rfl) ?_ _
                all_goals
                  have c0 := HBR.out.cell 0; have c1 := HBR.out.cell 1; simp at c0 c1; have hf0 := HBR.out.frozen 0; have hf1 := HBR.out.frozen 1
                  go_wp2_with fail
                  have HF := hide (((HBR.out.set_ 0 (.slice none 0 0)).set_ 1 (.int .i64 0)))
                  refine bodyPost_ret (results_cell_two rfl _ _ w.heap.size 30 _ (0, 0) _ rfl HF.out Tryd.underlying30 rfl (by kernel_rfl)) rfl ?_
                  rw [HVAL.out]
                  exact ⟨rfl, (HC.out.setCell (p := ⟨w.heap.size, 0, none⟩) (.inr (by simp)) _).setCell (p := ⟨w.heap.size, 1, none⟩) (.inr (by simp)) _⟩
              | true =>
                obtain ⟨_, hb1, hb2, h416⟩ := right_nat2 hr
                have HU8 := hide (show u ≤ 8 * la.length by omega)
                have HU1 := hide (show la.length ≤ 1000 by omega)
                by_cases hs2 : plainV la u = la
                · have HVAL := hide (show refP s = some (la, u) by rw [hval]; exact if_pos ⟨rfl, h128, hr, hs2⟩)
                  have HSAME := hide hs2
                  clear hval HVX hs2 hb1 hb2 h416
                  have FR := hide (show rightN la.length (u : Int) = true from hr)
                  clear hr
                  go_upto_region 11 with (first
                    | (go_at_call 7; with_reducible refine (HRA.out _).mono ?_; rintro e w2 ⟨v, rfl, ho, hr⟩; have HV := hide (hr [w.heap.size] (by simpa using HLT.out)); obtain ⟨A, cap, rfl, _, _⟩ := HV.out.formb; have HC := hide (HO.out.trans ho); have HBR := hide (HBR.out.only ho (by simp)); clear ho hr)
                    | (go_at_call 24; with_reducible refine (HRB.out _).mono ?_; rintro e w3 ⟨rfl, rfl⟩; have HQ := hide (Blk.new w2 30 #[.slice A la.length cap, .int .i64 u]); have HC := hide (HC.out.alloc (.cells #[.slice A la.length cap, .int .i64 u] 30)); have HBR := hide (HBR.out.alloc (.cells #[.slice A la.length cap, .int .i64 u] 30)); have HV := hide (HV.out.only ((Only.refl [] w2).alloc (.cells #[.slice A la.length cap, .int .i64 u] 30)) (by simp))))
                  generalize w2.alloc (.cells #[.slice A la.length cap, .int .i64 u] 30) = w4 at *
                  generalize w2.heap.size = Q at *
                  have q0 := HQ.out.cell 0
                  have q1 := HQ.out.cell 1
                  simp at q0 q1
                  refine wp_region_held_drew (S := (fun w' => w'.cell? ⟨Q, 0, none⟩ = some (.slice A la.length cap) ∧ w'.cell? ⟨Q, 1, none⟩ = some (.int .i64 u))) (by kernel_rfl) (by exact ⟨q0, q1⟩) (fun hHeld => ?_)
                  refine wpAnyH_take (i := 0) (v := ?_) rfl (by kernel_rfl) (by kernel_rfl) (by kernel_rfl) (fun _ _ _ h => h) (Or.inl ⟨by rfl, ?_⟩) (by assumption) ?_
                  rotate_left
                  · (intro w hSw; (try dsimp only at hSw); go_simp; try with_reducible rfl)
                  try simp only [List.getElem_toArray, List.getElem_cons_succ, List.getElem_cons_zero, Act.put, List.setIfInBounds_toArray, List.set_cons_zero, List.set_cons_succ]
                  refine wpAnyH_ready (rs := [1]) (by kernel_rfl) (by simp) ?_
                  refine AllReadyH.cons rfl (fun K hK => ?_) AllReadyH.nil
                  go_simp
                  go_at_call 15; refine (refright_any _ _ _ _ true FR.out _).mono ?_; rintro e w9 ⟨rfl, ho⟩; (first | (have ho := undrew ho) | skip); have HC := hide (HC.out.trans ho); have HV := hide (HV.out.only ho (by simp)); have HBR := hide (HBR.out.only ho (by simp)); have HQ := hide (HQ.out.only ho (by simp)); have q0 := HQ.out.cell 0; have q1 := HQ.out.cell 1; simp at q0 q1; (first | (have HRS := hide (HRS.out.only ho (by simp))) | skip); clear ho
                  refine hK.out _ _ (by exact ⟨q0, q1⟩) (fun hHeld => ?_)
                  clear hK K
                  try simp only [List.getElem_toArray, List.getElem_cons_succ, List.getElem_cons_zero, Act.put, List.setIfInBounds_toArray, List.set_cons_zero, List.set_cons_succ]
                  refine wpAnyH_take (i := 2) (v := ?_) rfl (by kernel_rfl) (by kernel_rfl) (by kernel_rfl) (fun _ _ _ h => h) (Or.inl ⟨by rfl, ?_⟩) (by assumption) ?_
                  rotate_left
                  · (intro w hSw; (try dsimp only at hSw); go_simp; try with_reducible rfl)
                  try simp only [List.getElem_toArray, List.getElem_cons_succ, List.getElem_cons_zero, Act.put, List.setIfInBounds_toArray, List.set_cons_zero, List.set_cons_succ]
                  refine wpAnyH_take (i := 3) (v := ?_) rfl (by kernel_rfl) (by kernel_rfl) (by kernel_rfl) (fun _ _ _ h => h) (Or.inl ⟨by rfl, ?_⟩) (by assumption) ?_
                  rotate_left
                  · (intro w hSw; (try dsimp only at hSw); go_simp; try with_reducible rfl)
                  try simp only [List.getElem_toArray, List.getElem_cons_succ, List.getElem_cons_zero, Act.put, List.setIfInBounds_toArray, List.set_cons_zero, List.set_cons_succ]
                  refine wpAnyH_take (i := 4) (v := ?_) rfl (by kernel_rfl) (by kernel_rfl) (by kernel_rfl) (fun _ _ _ h => h) (Or.inl ⟨by rfl, ?_⟩) (by assumption) ?_
                  rotate_left
                  · (intro w hSw; (try dsimp only at hSw); go_simp; try with_reducible rfl)
                  try simp only [List.getElem_toArray, List.getElem_cons_succ, List.getElem_cons_zero, Act.put, List.setIfInBounds_toArray, List.set_cons_zero, List.set_cons_succ]
                  refine wpAnyH_take (i := 6) (v := ?_) rfl (by kernel_rfl) (by kernel_rfl) (by kernel_rfl) (fun _ _ _ h => h) (Or.inl ⟨by rfl, ?_⟩) (by assumption) ?_
                  rotate_left
                  · (intro w hSw; (try dsimp only at hSw); go_simp; try with_reducible rfl)
                  try simp only [List.getElem_toArray, List.getElem_cons_succ, List.getElem_cons_zero, Act.put, List.setIfInBounds_toArray, List.set_cons_zero, List.set_cons_succ]
                  refine wpAnyH_ready (rs := [5]) (by kernel_rfl) (by simp) ?_
                  refine AllReadyH.cons rfl (fun K hK => ?_) AllReadyH.nil
                  go_simp
                  go_at_call 16; refine (refplain_any _ la u _ _ (HV.out.only (by first | with_reducible exact Only.refl [] _ | exact (Only.refl [] _).drew) (by simp)) HU8.out HU1.out).mono ?_; rintro e w9 ⟨v3, rfl, hr3, ho⟩; (first | (have ho := undrew ho) | skip); have HC := hide (HC.out.trans ho); have HV := hide (HV.out.only ho (by simp)); have HBR := hide (HBR.out.only ho (by simp)); have HQ := hide (HQ.out.only ho (by simp)); have q0 := HQ.out.cell 0; have q1 := HQ.out.cell 1; simp at q0 q1; (first | (have HRS := hide (HRS.out.only ho (by simp))) | skip); clear ho; have HRS := hide hr3; obtain ⟨A3, c3, rfl, _, _⟩ := hr3.formb; clear hr3
                  refine hK.out _ _ (by exact ⟨q0, q1⟩) (fun hHeld => ?_)
                  clear hK K
                  try simp only [List.getElem_toArray, List.getElem_cons_succ, List.getElem_cons_zero, Act.put, List.setIfInBounds_toArray, List.set_cons_zero, List.set_cons_succ]
                  refine wpAnyH_ready (rs := [7]) (by kernel_rfl) (by simp) ?_
                  refine AllReadyH.cons rfl (fun K hK => ?_) AllReadyH.nil
                  go_simp
                  go_at_call 11; refine (refsame_yes _ _ (plainV la u) la u _ _ _ HSAME.out HRS.out HV.out).mono ?_; rintro e w9 ⟨rfl, ho⟩; (first | (have ho := undrew ho) | skip); have HC := hide (HC.out.trans ho); have HV := hide (HV.out.only ho (by simp)); have HBR := hide (HBR.out.only ho (by simp)); have HQ := hide (HQ.out.only ho (by simp)); have q0 := HQ.out.cell 0; have q1 := HQ.out.cell 1; simp at q0 q1; (first | (have HRS := hide (HRS.out.only ho (by simp))) | skip); clear ho
                  refine hK.out _ _ (by exact ⟨q0, q1⟩) (fun hHeld => ?_)
                  clear hK K
                  try simp only [List.getElem_toArray, List.getElem_cons_succ, List.getElem_cons_zero, Act.put, List.setIfInBounds_toArray, List.set_cons_zero, List.set_cons_succ]
                  refine wpAnyH_take (i := 8) (v := ?_) rfl (by kernel_rfl) (by kernel_rfl) (by kernel_rfl) (fun _ _ _ h => h) (Or.inl ⟨by rfl, ?_⟩) (by assumption) ?_
                  rotate_left
                  · (intro w hSw; (try dsimp only at hSw); go_simp; try with_reducible rfl)
                  try simp only [List.getElem_toArray, List.getElem_cons_succ, List.getElem_cons_zero, Act.put, List.setIfInBounds_toArray, List.set_cons_zero, List.set_cons_succ]
                  refine wpAnyH_take (i := 9) (v := ?_) rfl (by kernel_rfl) (by kernel_rfl) (by kernel_rfl) (fun _ _ _ h => h) (Or.inl ⟨by rfl, ?_⟩) (by assumption) ?_
                  rotate_left
                  · (intro w hSw; (try dsimp only at hSw); go_simp; try with_reducible rfl)
                  try simp only [List.getElem_toArray, List.getElem_cons_succ, List.getElem_cons_zero, Act.put, List.setIfInBounds_toArray, List.set_cons_zero, List.set_cons_succ]
                  refine wpAnyH_done (by kernel_rfl) ?_ _
                  all_goals
                    have c0 := HBR.out.cell 0; have c1 := HBR.out.cell 1; simp at c0 c1; have hf0 := HBR.out.frozen 0; have hf1 := HBR.out.frozen 1
                    go_wp2_with fail
                    have HF := hide (((HBR.out.set_ 0 (.slice A la.length cap)).set_ 1 (.int .i64 u)))
                    refine bodyPost_ret (results_cell_two rfl _ _ w.heap.size 30 _ (0, 0) _ rfl HF.out Tryd.underlying30 rfl (by kernel_rfl)) rfl ?_
                    rw [HVAL.out]
                    exact ⟨_, rfl, (HV.out.only (((Only.refl [w.heap.size] _).setCell (p := ⟨w.heap.size, 0, none⟩) (.inl (by simp)) (.slice A la.length cap)).setCell (p := ⟨w.heap.size, 1, none⟩) (.inl (by simp)) (.int .i64 u)) (by simp)).less (by simp), (HC.out.setCell (p := ⟨w.heap.size, 0, none⟩) (.inr (by simp)) _).setCell (p := ⟨w.heap.size, 1, none⟩) (.inr (by simp)) _⟩
                · have HVAL := hide (show refP s = none by rw [hval]; exact if_neg (fun h => hs2 h.2.2.2))
                  have HSAME := hide hs2
                  clear hval HVX hs2 hb1 hb2 h416
                  have FR := hide (show rightN la.length (u : Int) = true from hr)
                  clear hr
                  go_upto_region 11 with (first
                    | (go_at_call 7; with_reducible refine (HRA.out _).mono ?_; rintro e w2 ⟨v, rfl, ho, hr⟩; have HV := hide (hr [w.heap.size] (by simpa using HLT.out)); obtain ⟨A, cap, rfl, _, _⟩ := HV.out.formb; have HC := hide (HO.out.trans ho); have HBR := hide (HBR.out.only ho (by simp)); clear ho hr)
                    | (go_at_call 24; with_reducible refine (HRB.out _).mono ?_; rintro e w3 ⟨rfl, rfl⟩; have HQ := hide (Blk.new w2 30 #[.slice A la.length cap, .int .i64 u]); have HC := hide (HC.out.alloc (.cells #[.slice A la.length cap, .int .i64 u] 30)); have HBR := hide (HBR.out.alloc (.cells #[.slice A la.length cap, .int .i64 u] 30)); have HV := hide (HV.out.only ((Only.refl [] w2).alloc (.cells #[.slice A la.length cap, .int .i64 u] 30)) (by simp))))
                  generalize w2.alloc (.cells #[.slice A la.length cap, .int .i64 u] 30) = w4 at *
                  generalize w2.heap.size = Q at *
                  have q0 := HQ.out.cell 0
                  have q1 := HQ.out.cell 1
                  simp at q0 q1
                  refine wp_region_held_drew (S := (fun w' => w'.cell? ⟨Q, 0, none⟩ = some (.slice A la.length cap) ∧ w'.cell? ⟨Q, 1, none⟩ = some (.int .i64 u))) (by kernel_rfl) (by exact ⟨q0, q1⟩) (fun hHeld => ?_)
                  refine wpAnyH_take (i := 0) (v := ?_) rfl (by kernel_rfl) (by kernel_rfl) (by kernel_rfl) (fun _ _ _ h => h) (Or.inl ⟨by rfl, ?_⟩) (by assumption) ?_
                  rotate_left
                  · (intro w hSw; (try dsimp only at hSw); go_simp; try with_reducible rfl)
                  try simp only [List.getElem_toArray, List.getElem_cons_succ, List.getElem_cons_zero, Act.put, List.setIfInBounds_toArray, List.set_cons_zero, List.set_cons_succ]
                  refine wpAnyH_ready (rs := [1]) (by kernel_rfl) (by simp) ?_
                  refine AllReadyH.cons rfl (fun K hK => ?_) AllReadyH.nil
                  go_simp
                  go_at_call 15; refine (refright_any _ _ _ _ true FR.out _).mono ?_; rintro e w9 ⟨rfl, ho⟩; (first | (have ho := undrew ho) | skip); have HC := hide (HC.out.trans ho); have HV := hide (HV.out.only ho (by simp)); have HBR := hide (HBR.out.only ho (by simp)); have HQ := hide (HQ.out.only ho (by simp)); have q0 := HQ.out.cell 0; have q1 := HQ.out.cell 1; simp at q0 q1; (first | (have HRS := hide (HRS.out.only ho (by simp))) | skip); clear ho
                  refine hK.out _ _ (by exact ⟨q0, q1⟩) (fun hHeld => ?_)
                  clear hK K
                  try simp only [List.getElem_toArray, List.getElem_cons_succ, List.getElem_cons_zero, Act.put, List.setIfInBounds_toArray, List.set_cons_zero, List.set_cons_succ]
                  refine wpAnyH_take (i := 2) (v := ?_) rfl (by kernel_rfl) (by kernel_rfl) (by kernel_rfl) (fun _ _ _ h => h) (Or.inl ⟨by rfl, ?_⟩) (by assumption) ?_
                  rotate_left
                  · (intro w hSw; (try dsimp only at hSw); go_simp; try with_reducible rfl)
                  try simp only [List.getElem_toArray, List.getElem_cons_succ, List.getElem_cons_zero, Act.put, List.setIfInBounds_toArray, List.set_cons_zero, List.set_cons_succ]
                  refine wpAnyH_take (i := 3) (v := ?_) rfl (by kernel_rfl) (by kernel_rfl) (by kernel_rfl) (fun _ _ _ h => h) (Or.inl ⟨by rfl, ?_⟩) (by assumption) ?_
                  rotate_left
                  · (intro w hSw; (try dsimp only at hSw); go_simp; try with_reducible rfl)
                  try simp only [List.getElem_toArray, List.getElem_cons_succ, List.getElem_cons_zero, Act.put, List.setIfInBounds_toArray, List.set_cons_zero, List.set_cons_succ]
                  refine wpAnyH_take (i := 4) (v := ?_) rfl (by kernel_rfl) (by kernel_rfl) (by kernel_rfl) (fun _ _ _ h => h) (Or.inl ⟨by rfl, ?_⟩) (by assumption) ?_
                  rotate_left
                  · (intro w hSw; (try dsimp only at hSw); go_simp; try with_reducible rfl)
                  try simp only [List.getElem_toArray, List.getElem_cons_succ, List.getElem_cons_zero, Act.put, List.setIfInBounds_toArray, List.set_cons_zero, List.set_cons_succ]
                  refine wpAnyH_take (i := 6) (v := ?_) rfl (by kernel_rfl) (by kernel_rfl) (by kernel_rfl) (fun _ _ _ h => h) (Or.inl ⟨by rfl, ?_⟩) (by assumption) ?_
                  rotate_left
                  · (intro w hSw; (try dsimp only at hSw); go_simp; try with_reducible rfl)
                  try simp only [List.getElem_toArray, List.getElem_cons_succ, List.getElem_cons_zero, Act.put, List.setIfInBounds_toArray, List.set_cons_zero, List.set_cons_succ]
                  refine wpAnyH_ready (rs := [5]) (by kernel_rfl) (by simp) ?_
                  refine AllReadyH.cons rfl (fun K hK => ?_) AllReadyH.nil
                  go_simp
                  go_at_call 16; refine (refplain_any _ la u _ _ (HV.out.only (by first | with_reducible exact Only.refl [] _ | exact (Only.refl [] _).drew) (by simp)) HU8.out HU1.out).mono ?_; rintro e w9 ⟨v3, rfl, hr3, ho⟩; (first | (have ho := undrew ho) | skip); have HC := hide (HC.out.trans ho); have HV := hide (HV.out.only ho (by simp)); have HBR := hide (HBR.out.only ho (by simp)); have HQ := hide (HQ.out.only ho (by simp)); have q0 := HQ.out.cell 0; have q1 := HQ.out.cell 1; simp at q0 q1; (first | (have HRS := hide (HRS.out.only ho (by simp))) | skip); clear ho; have HRS := hide hr3; obtain ⟨A3, c3, rfl, _, _⟩ := hr3.formb; clear hr3
                  refine hK.out _ _ (by exact ⟨q0, q1⟩) (fun hHeld => ?_)
                  clear hK K
                  try simp only [List.getElem_toArray, List.getElem_cons_succ, List.getElem_cons_zero, Act.put, List.setIfInBounds_toArray, List.set_cons_zero, List.set_cons_succ]
                  refine wpAnyH_ready (rs := [7]) (by kernel_rfl) (by simp) ?_
                  refine AllReadyH.cons rfl (fun K hK => ?_) AllReadyH.nil
                  go_simp
                  go_at_call 11; refine (refsame_no _ _ (plainV la u) la u _ _ _ HSAME.out HRS.out HV.out).mono ?_; rintro e w9 ⟨rfl, ho⟩; (first | (have ho := undrew ho) | skip); have HC := hide (HC.out.trans ho); have HV := hide (HV.out.only ho (by simp)); have HBR := hide (HBR.out.only ho (by simp)); have HQ := hide (HQ.out.only ho (by simp)); have q0 := HQ.out.cell 0; have q1 := HQ.out.cell 1; simp at q0 q1; (first | (have HRS := hide (HRS.out.only ho (by simp))) | skip); clear ho
                  refine hK.out _ _ (by exact ⟨q0, q1⟩) (fun hHeld => ?_)
                  clear hK K
                  try simp only [List.getElem_toArray, List.getElem_cons_succ, List.getElem_cons_zero, Act.put, List.setIfInBounds_toArray, List.set_cons_zero, List.set_cons_succ]
                  refine wpAnyH_take (i := 8) (v := ?_) rfl (by kernel_rfl) (by kernel_rfl) (by kernel_rfl) (fun _ _ _ h => h) (Or.inl ⟨by rfl, ?_⟩) (by assumption) ?_
                  rotate_left
                  · (intro w hSw; (try dsimp only at hSw); go_simp; try with_reducible rfl)
                  try simp only [List.getElem_toArray, List.getElem_cons_succ, List.getElem_cons_zero, Act.put, List.setIfInBounds_toArray, List.set_cons_zero, List.set_cons_succ]
                  refine wpAnyH_take (i := 9) (v := ?_) rfl (by kernel_rfl) (by kernel_rfl) (by kernel_rfl) (fun _ _ _ h => h) (Or.inl ⟨by rfl, ?_⟩) (by assumption) ?_
                  rotate_left
                  · (intro w hSw; (try dsimp only at hSw); go_simp; try with_reducible rfl)
                  try simp only [List.getElem_toArray, List.getElem_cons_succ, List.getElem_cons_zero, Act.put, List.setIfInBounds_toArray, List.set_cons_zero, List.set_cons_succ]
                  refine wpAnyH_done (by kernel_rfl) ?_ _
                  all_goals
                    have c0 := HBR.out.cell 0; have c1 := HBR.out.cell 1; simp at c0 c1; have hf0 := HBR.out.frozen 0; have hf1 := HBR.out.frozen 1
                    go_wp2_with fail
                    have HF := hide (((HBR.out.set_ 0 (.slice none 0 0)).set_ 1 (.int .i64 0)))
                    refine bodyPost_ret (results_cell_two rfl _ _ w.heap.size 30 _ (0, 0) _ rfl HF.out Tryd.underlying30 rfl (by kernel_rfl)) rfl ?_
                    rw [HVAL.out]
                    exact ⟨rfl, (HC.out.setCell (p := ⟨w.heap.size, 0, none⟩) (.inr (by simp)) _).setCell (p := ⟨w.heap.size, 1, none⟩) (.inr (by simp)) _⟩
            · have HVAL := hide (show refP s = none by rw [hval]; exact if_neg (fun h => h128 h.2.1))
              have h128I : (128 : Int) < (u : Int) := by omega
              clear hval HVX h128
              go_wp2_with (first
                | (go_at_call 7; with_reducible refine (HRA.out _).mono ?_; rintro e w2 ⟨v, rfl, ho, hr⟩; have HV := hide (hr [w.heap.size] (by simpa using HLT.out)); obtain ⟨A, cap, rfl, _, _⟩ := HV.out.formb; have HC := hide (HO.out.trans ho); have HBR := hide (HBR.out.only ho (by simp)); clear ho hr)
                | (go_at_call 24; with_reducible refine (HRB.out _).mono ?_; rintro e w3 ⟨rfl, rfl⟩; have c0 := HBR.out.cell 0; have c1 := HBR.out.cell 1; simp at c0 c1; have hf0 := HBR.out.frozen 0; have hf1 := HBR.out.frozen 1))
              have HF := hide (((HBR.out.set_ 0 (.slice none 0 0)).set_ 1 (.int .i64 0)))
              refine bodyPost_ret (results_cell_two rfl _ _ w.heap.size 30 _ (0, 0) _ rfl HF.out Tryd.underlying30 rfl (by kernel_rfl)) rfl ?_
              rw [HVAL.out]
              exact ⟨rfl, (HC.out.setCell (p := ⟨w.heap.size, 0, none⟩) (.inr (by simp)) _).setCell (p := ⟨w.heap.size, 1, none⟩) (.inr (by simp)) _⟩
          · have HVAL := hide (show refP s = none by rw [hval]; exact if_neg (fun h => hd h.1))
            have hdb : ((d : Int) != 0) = true := by rw [bne_iff_ne]; omega
            clear hval HVX hd
            go_wp2_with (first
              | (go_at_call 7; with_reducible refine (HRA.out _).mono ?_; rintro e w2 ⟨v, rfl, ho, hr⟩; have HV := hide (hr [w.heap.size] (by simpa using HLT.out)); obtain ⟨A, cap, rfl, _, _⟩ := HV.out.formb; have HC := hide (HO.out.trans ho); have HBR := hide (HBR.out.only ho (by simp)); clear ho hr)
              | (go_at_call 24; with_reducible refine (HRB.out _).mono ?_; rintro e w3 ⟨rfl, rfl⟩; have c0 := HBR.out.cell 0; have c1 := HBR.out.cell 1; simp at c0 c1; have hf0 := HBR.out.frozen 0; have hf1 := HBR.out.frozen 1))
            have HF := hide (((HBR.out.set_ 0 (.slice none 0 0)).set_ 1 (.int .i64 0)))
            refine bodyPost_ret (results_cell_two rfl _ _ w.heap.size 30 _ (0, 0) _ rfl HF.out Tryd.underlying30 rfl (by kernel_rfl)) rfl ?_
            rw [HVAL.out]
            exact ⟨rfl, (HC.out.setCell (p := ⟨w.heap.size, 0, none⟩) (.inr (by simp)) _).setCell (p := ⟨w.heap.size, 1, none⟩) (.inr (by simp)) _⟩
      · have hn1 : ((s[k].toNat : Int) != 47) = true := by rw [bne_iff_ne]; omega
        have hn2 : (s[k].toNat != 47) = true := by rw [bne_iff_ne]; omega
        have HN := hide (no_more (c := 47) hlt hno.out (fun h => h47 (congrArg UInt8.toNat h)))
        clear h47
        go_wp2_with fail
        go_round
        case rel => exact ⟨k + 1, by omega, by go_num, HN⟩
        case measure => simp [intOf]; omega
    · obtain rfl : k = s.size := by omega
      have hltI : ¬ (s.size : Int) < s.size := by omega
      have HVAL := hide (refP_none (s := s) (fun b hb => hno.out b (by rw [List.take_of_length_le (show s.data.toList.length ≤ s.size from Nat.le_of_eq rfl)]; exact hb)))
      have c0 := HBR.out.cell 0; have c1 := HBR.out.cell 1; simp at c0 c1; have hf0 := HBR.out.frozen 0; have hf1 := HBR.out.frozen 1
      go_wp2_with fail
      have HF := hide (((HBR.out.set_ 0 (.slice none 0 0)).set_ 1 (.int .i64 0)))
      refine bodyPost_ret (results_cell_two rfl _ _ w.heap.size 30 _ (0, 0) _ rfl HF.out Tryd.underlying30 rfl (by kernel_rfl)) rfl ?_
      rw [HVAL.out]
      exact ⟨rfl, (HC.out.setCell (p := ⟨w.heap.size, 0, none⟩) (.inr (by simp)) _).setCell (p := ⟨w.heap.size, 1, none⟩) (.inr (by simp)) _⟩
end
end Go.Proofs.YthecnaclfhfilaaDoor

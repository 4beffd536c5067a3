/-
  addr.Within and addr.Plain: by walking.
-/
import Derived.Test.YtjkgmkkhjpcngaaDoorAd3
namespace Go.Proofs.YtjkgmkkhjpcngaaDoor
open Go.RowKit Go.Deep

set_option maxHeartbeats 6400000 in
theorem within_any (v u : Value) (l m : List UInt8) (b c : Int) (N M : List Nat) (w : World) (hv : Rd w N v (ints .u8 (byts l))) (hu : Rd w M u (ints .u8 (byts m))) :
    Calls Tryd.prog 27 #[.agg #[v, .int .i64 b], .agg #[u, .int .i64 c]] w (RetB (withinV l b m c) w) := by
  have HO := hide (((Only.refl [] w).alloc (.cells #[v, .int .i64 b] 36)).alloc (.cells #[u, .int .i64 c] 36))
  have HV := hide ((hv.less (N' := []) (fun x hx => by cases hx)).only HO.out (by simp))
  have HU := hide ((hu.less (N' := []) (fun x hx => by cases hx)).only HO.out (by simp))
  have HBX := hide ((Blk.new w 36 #[v, .int .i64 b]).alloc (.cells #[u, .int .i64 c] 36))
  have HBY := hide (Blk.new (w.alloc (.cells #[v, .int .i64 b] 36)) 36 #[u, .int .i64 c])
  simp only [World.size_alloc] at HBY
  obtain ⟨A, cap, rfl, hcp, hcm⟩ := hv.formb
  obtain ⟨A', cap', rfl, hcp', hcm'⟩ := hu.formb
  clear hv hu
  obtain ⟨n, hn⟩ : ∃ n, n = l.length := ⟨_, rfl⟩
  obtain ⟨n', hn'⟩ : ∃ n', n' = m.length := ⟨_, rfl⟩
  rw [← hn, ← hn'] at HV HU HBX HBY HO ⊢
  rw [← hn] at hcp
  rw [← hn'] at hcp'
  have HN := hide hn
  have HN' := hide hn'
  have HC := HO
  cases hr : rightV l b with
  | false =>
    have HR := hide (show withinV l b m c = false by unfold withinV; rw [hr]; rfl)
    have HR1 := hide (show rightN n b = false by rw [hn]; exact hr)
    clear hr hn hn'
    go_enter Tryd.func27, Tryd.ntmps27
    go_wp2_with (first
      | (go_at_call_of 21 (Value.agg #[Value.slice A n cap, Value.int IntKind.i64 b]); refine (right_any _ _ _ _ false HR1.out _).mono ?_; rintro e w1 ⟨rfl, ho⟩; have HC := hide (HC.out.trans ho); have HV := hide (HV.out.only ho (by simp)); have HU := hide (HU.out.only ho (by simp)); have HBX := hide (HBX.out.only ho (by simp)); have HBY := hide (HBY.out.only ho (by simp)); have c0 := HBX.out.cell 0; have c1 := HBX.out.cell 1; have c2 := HBY.out.cell 0; have c3 := HBY.out.cell 1; simp at c0 c1 c2 c3; clear ho))
    go_ret
    exact retb HR.out HC.out
  | true =>
    have HR1 := hide (show rightN n b = true by rw [hn]; exact hr)
    cases hr2 : rightV m c with
    | false =>
      have HR := hide (show withinV l b m c = false by unfold withinV; rw [hr, hr2]; rfl)
      have HR2 := hide (show rightN n' c = false by rw [hn']; exact hr2)
      clear hr hr2 hn hn'
      go_enter Tryd.func27, Tryd.ntmps27
      go_wp2_with (first
        | (go_at_call_of 21 (Value.agg #[Value.slice A n cap, Value.int IntKind.i64 b]); refine (right_any _ _ _ _ true HR1.out _).mono ?_; rintro e w1 ⟨rfl, ho⟩; have HC := hide (HC.out.trans ho); have HV := hide (HV.out.only ho (by simp)); have HU := hide (HU.out.only ho (by simp)); have HBX := hide (HBX.out.only ho (by simp)); have HBY := hide (HBY.out.only ho (by simp)); have c0 := HBX.out.cell 0; have c1 := HBX.out.cell 1; have c2 := HBY.out.cell 0; have c3 := HBY.out.cell 1; simp at c0 c1 c2 c3; clear ho)
        | (go_at_call_of 21 (Value.agg #[Value.slice A' n' cap', Value.int IntKind.i64 c]); refine (right_any _ _ _ _ false HR2.out _).mono ?_; rintro e w2 ⟨rfl, ho⟩; have HC := hide (HC.out.trans ho); have HV := hide (HV.out.only ho (by simp)); have HU := hide (HU.out.only ho (by simp)); have HBX := hide (HBX.out.only ho (by simp)); have HBY := hide (HBY.out.only ho (by simp)); have c0 := HBX.out.cell 0; have c1 := HBX.out.cell 1; have c2 := HBY.out.cell 0; have c3 := HBY.out.cell 1; simp at c0 c1 c2 c3; clear ho))
      go_ret
      exact retb HR.out HC.out
    | true =>
      have HR2 := hide (show rightN n' c = true by rw [hn']; exact hr2)
      by_cases hl : n = n'
      · by_cases hcb : c ≤ b
        · obtain ⟨cn, rfl, hcn, h416⟩ := right_nat2 hr2
          have hl1000 : n ≤ 16 := by omega
          have HNN := hide (hn'.symm.trans (hl.symm.trans hn))
          have HR := hide (show withinV l b m (cn : Int) = decide (sameP l m cn) by unfold withinV; rw [hr, hr2, decide_eq_true HNN.out.symm, decide_eq_true hcb]; rfl)
          have hcn2 : cn ≤ 128 := by omega
          subst hl
          clear hr hr2 hn hn' h416 hcn
          go_enter Tryd.func27, Tryd.ntmps27
          go_wp2_with (first
            | (go_at_call_of 21 (Value.agg #[Value.slice A n cap, Value.int IntKind.i64 b]); refine (right_any _ _ _ _ true HR1.out _).mono ?_; rintro e w1 ⟨rfl, ho⟩; have HC := hide (HC.out.trans ho); have HV := hide (HV.out.only ho (by simp)); have HU := hide (HU.out.only ho (by simp)); have HBX := hide (HBX.out.only ho (by simp)); have HBY := hide (HBY.out.only ho (by simp)); have c0 := HBX.out.cell 0; have c1 := HBX.out.cell 1; have c2 := HBY.out.cell 0; have c3 := HBY.out.cell 1; simp at c0 c1 c2 c3; clear ho)
            | (go_at_call_of 21 (Value.agg #[Value.slice A' n cap', Value.int IntKind.i64 (cn : Int)]); refine (right_any _ _ _ _ true HR2.out _).mono ?_; rintro e w2 ⟨rfl, ho⟩; have HC := hide (HC.out.trans ho); have HV := hide (HV.out.only ho (by simp)); have HU := hide (HU.out.only ho (by simp)); have HBX := hide (HBX.out.only ho (by simp)); have HBY := hide (HBY.out.only ho (by simp)); have c0 := HBX.out.cell 0; have c1 := HBX.out.cell 1; have c2 := HBY.out.cell 0; have c3 := HBY.out.cell 1; simp at c0 c1 c2 c3; clear ho)
            | (go_at_call 44; refine (same_any _ _ l m _ _ cn _ HV.out HU.out HNN.out (by rw [← HN.out]; omega) (by omega)).mono ?_; rintro e w3 ⟨rfl, ho⟩; have HC := hide (HC.out.trans ho); clear ho))
          go_ret
          exact retb HR.out HC.out
        · have HR := hide (show withinV l b m c = false by unfold withinV; rw [decide_eq_false hcb]; simp)
          subst hl
          clear hr hr2 hn hn'
          go_enter Tryd.func27, Tryd.ntmps27
          go_wp2_with (first
            | (go_at_call_of 21 (Value.agg #[Value.slice A n cap, Value.int IntKind.i64 b]); refine (right_any _ _ _ _ true HR1.out _).mono ?_; rintro e w1 ⟨rfl, ho⟩; have HC := hide (HC.out.trans ho); have HV := hide (HV.out.only ho (by simp)); have HU := hide (HU.out.only ho (by simp)); have HBX := hide (HBX.out.only ho (by simp)); have HBY := hide (HBY.out.only ho (by simp)); have c0 := HBX.out.cell 0; have c1 := HBX.out.cell 1; have c2 := HBY.out.cell 0; have c3 := HBY.out.cell 1; simp at c0 c1 c2 c3; clear ho)
            | (go_at_call_of 21 (Value.agg #[Value.slice A' n cap', Value.int IntKind.i64 c]); refine (right_any _ _ _ _ true HR2.out _).mono ?_; rintro e w2 ⟨rfl, ho⟩; have HC := hide (HC.out.trans ho); have HV := hide (HV.out.only ho (by simp)); have HU := hide (HU.out.only ho (by simp)); have HBX := hide (HBX.out.only ho (by simp)); have HBY := hide (HBY.out.only ho (by simp)); have c0 := HBX.out.cell 0; have c1 := HBX.out.cell 1; have c2 := HBY.out.cell 0; have c3 := HBY.out.cell 1; simp at c0 c1 c2 c3; clear ho))
          go_ret
          exact retb HR.out HC.out
      · have hlI : ((n : Int) == n') = false := by rw [beq_eq_false_iff_ne]; omega
        have HR := hide (show withinV l b m c = false by unfold withinV; rw [decide_eq_false (show ¬ l.length = m.length by rw [← hn, ← hn']; exact hl)]; simp)
        clear hr hr2 hn hn' hl
        go_enter Tryd.func27, Tryd.ntmps27
        go_wp2_with (first
          | (go_at_call_of 21 (Value.agg #[Value.slice A n cap, Value.int IntKind.i64 b]); refine (right_any _ _ _ _ true HR1.out _).mono ?_; rintro e w1 ⟨rfl, ho⟩; have HC := hide (HC.out.trans ho); have HV := hide (HV.out.only ho (by simp)); have HU := hide (HU.out.only ho (by simp)); have HBX := hide (HBX.out.only ho (by simp)); have HBY := hide (HBY.out.only ho (by simp)); have c0 := HBX.out.cell 0; have c1 := HBX.out.cell 1; have c2 := HBY.out.cell 0; have c3 := HBY.out.cell 1; simp at c0 c1 c2 c3; clear ho)
          | (go_at_call_of 21 (Value.agg #[Value.slice A' n' cap', Value.int IntKind.i64 c]); refine (right_any _ _ _ _ true HR2.out _).mono ?_; rintro e w2 ⟨rfl, ho⟩; have HC := hide (HC.out.trans ho); have HV := hide (HV.out.only ho (by simp)); have HU := hide (HU.out.only ho (by simp)); have HBX := hide (HBX.out.only ho (by simp)); have HBY := hide (HBY.out.only ho (by simp)); have c0 := HBX.out.cell 0; have c1 := HBX.out.cell 1; have c2 := HBY.out.cell 0; have c3 := HBY.out.cell 1; simp at c0 c1 c2 c3; clear ho))
        go_ret
        exact retb HR.out HC.out

theorem take_cells {l m : List UInt8} {k : Nat} {x : Int} (hk : k < m.length) (hx : x = ((m.getD k 0).toNat : Int)) : ints .u8 (byts (m.take k)) ++ [.int .u8 x] = ints .u8 (byts (m.take (k + 1))) := by
  subst hx
  rw [List.take_add_one, getD_some hk, byts_append]
  simp [ints, byts]

set_option maxRecDepth 100000 in
set_option maxHeartbeats 6400000 in
theorem Plain_no (v : Value) (l : List UInt8) (b : Int) (N : List Nat) (w : World) (hv : Rd w N v (ints .u8 (byts l))) (hr : rightV l b = false) :
    Calls Tryd.prog 20 #[.agg #[v, .int .i64 b]] w fun e w' => e = .returned (.tuple #[.agg #[.slice none 0 0, .int .i64 0], .int .i64 3]) ∧ Only [] w w' := by
  have HO := hide (((Only.refl [] w).alloc (.cells #[v, .int .i64 b] 36)).alloc (.cells #[.slice none 0 0, .int .i64 0] 36))
  have HBR := hide (Blk.new (w.alloc (.cells #[v, .int .i64 b] 36)) 36 #[.slice none 0 0, .int .i64 0])
  simp only [World.size_alloc] at HBR
  obtain ⟨A, cap, rfl, hcp, hcm⟩ := hv.formb
  have HRR := hide (show rightN l.length b = false from hr)
  clear hv hr
  generalize l.length = n at *
  obtain ⟨G, hG⟩ : ∃ G, G = w.heap.size := ⟨_, rfl⟩
  have HG := hide hG
  go_enter Tryd.func20, Tryd.ntmps20
  go_wp2_with (go_at_call 21; refine (right_any _ _ _ _ false HRR.out _).mono ?_; rintro e w1 ⟨rfl, ho⟩; have HC := hide (HO.out.trans ho); have HBR := hide (HBR.out.only ho (by simp)); have c0 := HBR.out.cell 0; have c1 := HBR.out.cell 1; simp at c0 c1; have hf0 := HBR.out.frozen 0; have hf1 := HBR.out.frozen 1; clear ho)
  have HF := hide (((HBR.out.set_ 0 (.slice none 0 0)).set_ 1 (.int .i64 0)))
  refine bodyPost_ret (results_cell_two rfl _ _ (w.heap.size + 1) 36 _ (0, 0) _ rfl HF.out Tryd.underlying36 rfl (by kernel_rfl)) rfl ?_
  exact ⟨rfl, (HC.out.setCell (p := ⟨w.heap.size + 1, 0, none⟩) (.inr (by simp)) _).setCell (p := ⟨w.heap.size + 1, 1, none⟩) (.inr (by simp)) _⟩
end Go.Proofs.YtjkgmkkhjpcngaaDoor

/-
  The law AddrWithin, by walking. Condition: the library's table of powers of ten reads as it was laid.
-/
import Derived.Test.YtjkgmkkhjpcngaaDoorAw1
namespace Go.Proofs.YtjkgmkkhjpcngaaDoor
open Go.RowKit Go.Deep

set_option maxRecDepth 100000 in
set_option maxHeartbeats 12800000 in
theorem addrWithin_walk (v u x : Value) (l m a : List UInt8) (b c : Int) (w : World) (hv : Rd w [] v (ints .u8 (byts l))) (hu : Rd w [] u (ints .u8 (byts m))) (hx : Rd w [] x (ints .u8 (byts a))) (htab : Tab w) :
    Calls Tryd.prog 6 #[.agg #[v, .int .i64 b], .agg #[u, .int .i64 c], x] w (TrueP w) := by
  have HO := hide (((Only.refl [] w).alloc (.cells #[v, .int .i64 b] 36)).alloc (.cells #[u, .int .i64 c] 36))
  have HV := hide (hv.only HO.out (by simp))
  have HU := hide (hu.only HO.out (by simp))
  have HX := hide (hx.only HO.out (by simp))
  have HBX := hide ((Blk.new w 36 #[v, .int .i64 b]).alloc (.cells #[u, .int .i64 c] 36))
  have HBY := hide (Blk.new (w.alloc (.cells #[v, .int .i64 b] 36)) 36 #[u, .int .i64 c])
  simp only [World.size_alloc] at HBY
  have HT := hide (htab.only HO.out (by simp))
  obtain ⟨A, cap, rfl, hcp, hcm⟩ := hv.formb
  obtain ⟨A', cap', rfl, hcp', hcm'⟩ := hu.formb
  obtain ⟨B, cup, rfl, hcp2, hcm2⟩ := hx.formb
  clear hv hu hx htab
  obtain ⟨n, hn⟩ : ∃ n, n = l.length := ⟨_, rfl⟩
  obtain ⟨n', hn'⟩ : ∃ n', n' = m.length := ⟨_, rfl⟩
  obtain ⟨k, hk⟩ : ∃ k, k = a.length := ⟨_, rfl⟩
  rw [← hn, ← hn'] at HV HU HX HBX HBY HT HO ⊢
  rw [← hk] at HX hcp2 ⊢
  rw [← hn] at hcp
  rw [← hn'] at hcp'
  have HN := hide hn
  have HN' := hide hn'
  obtain ⟨G, hG⟩ : ∃ G, G = w.heap.size := ⟨_, rfl⟩
  rw [← hG] at HBX HBY
  have HG := hide hG
  obtain ⟨w0, hw0⟩ : ∃ w0, w0 = (w.alloc (.cells #[.slice A n cap, .int .i64 b] 36)).alloc (.cells #[.slice A' n' cap', .int .i64 c] 36) := ⟨_, rfl⟩
  have HW0 := hide hw0
  rw [← hw0] at HO HV HU HX HT HBX HBY
  clear hw0 hG hk
  have HAW := hide (fun W ht => awake04 W ht)
  by_cases k1 : 40 < n
  · have h1 : (40 : Int) < n := by omega
    clear hn hn'
    go_enter Tryd.func6, Tryd.ntmps6
    go_wp2_with (first
      | (go_at_call 19; rw [← HW0.out, ← HG.out]; refine (HAW.out _ HT.out).mono ?_; rintro e w1 ⟨rfl, ho⟩; have HC := hide HO.out; have HC := hide (HC.out.trans ho); have HV := hide (HV.out.only ho (by simp)); have HU := hide (HU.out.only ho (by simp)); have HX := hide (HX.out.only ho (by simp)); have HT := hide (HT.out.only ho (by simp)); have HBX := hide (HBX.out.only ho (by simp)); have HBY := hide (HBY.out.only ho (by simp)); have c0 := HBX.out.cell 0; have c1 := HBX.out.cell 1; have c2 := HBY.out.cell 0; have c3 := HBY.out.cell 1; simp at c0 c1 c2 c3; clear ho))
    go_ret
    exact ⟨by first | rfl | simp, HC.out⟩
  have h1 : ¬ (40 : Int) < n := by omega
  by_cases k2 : 40 < n'
  · have h2 : (40 : Int) < n' := by omega
    clear hn hn'
    go_enter Tryd.func6, Tryd.ntmps6
    go_wp2_with (first
      | (go_at_call 19; rw [← HW0.out, ← HG.out]; refine (HAW.out _ HT.out).mono ?_; rintro e w1 ⟨rfl, ho⟩; have HC := hide HO.out; have HC := hide (HC.out.trans ho); have HV := hide (HV.out.only ho (by simp)); have HU := hide (HU.out.only ho (by simp)); have HX := hide (HX.out.only ho (by simp)); have HT := hide (HT.out.only ho (by simp)); have HBX := hide (HBX.out.only ho (by simp)); have HBY := hide (HBY.out.only ho (by simp)); have c0 := HBX.out.cell 0; have c1 := HBX.out.cell 1; have c2 := HBY.out.cell 0; have c3 := HBY.out.cell 1; simp at c0 c1 c2 c3; clear ho))
    go_ret
    exact ⟨by first | rfl | simp, HC.out⟩
  have h2 : ¬ (40 : Int) < n' := by omega
  by_cases k3 : 40 < k
  · have h3 : (40 : Int) < k := by omega
    clear hn hn'
    go_enter Tryd.func6, Tryd.ntmps6
    go_wp2_with (first
      | (go_at_call 19; rw [← HW0.out, ← HG.out]; refine (HAW.out _ HT.out).mono ?_; rintro e w1 ⟨rfl, ho⟩; have HC := hide HO.out; have HC := hide (HC.out.trans ho); have HV := hide (HV.out.only ho (by simp)); have HU := hide (HU.out.only ho (by simp)); have HX := hide (HX.out.only ho (by simp)); have HT := hide (HT.out.only ho (by simp)); have HBX := hide (HBX.out.only ho (by simp)); have HBY := hide (HBY.out.only ho (by simp)); have c0 := HBX.out.cell 0; have c1 := HBX.out.cell 1; have c2 := HBY.out.cell 0; have c3 := HBY.out.cell 1; simp at c0 c1 c2 c3; clear ho))
    go_ret
    exact ⟨by first | rfl | simp, HC.out⟩
  have h3 : ¬ (40 : Int) < k := by omega
  clear k1 k2 k3
  have hww := within_want l m b c
  cases hr : rightV l b with
  | false =>
    have FW := hide (show withinV l b m c = false by rw [hww, hr]; rfl)
    have FR := hide (show rightN n b = false by rw [hn]; exact hr)
    clear hr hn hn' hww
    go_enter Tryd.func6, Tryd.ntmps6
    go_wp2_with (first
      | (go_at_call 19; rw [← HW0.out, ← HG.out]; refine (HAW.out _ HT.out).mono ?_; rintro e w1 ⟨rfl, ho⟩; have HC := hide HO.out; have HC := hide (HC.out.trans ho); have HV := hide (HV.out.only ho (by simp)); have HU := hide (HU.out.only ho (by simp)); have HX := hide (HX.out.only ho (by simp)); have HT := hide (HT.out.only ho (by simp)); have HBX := hide (HBX.out.only ho (by simp)); have HBY := hide (HBY.out.only ho (by simp)); have c0 := HBX.out.cell 0; have c1 := HBX.out.cell 1; have c2 := HBY.out.cell 0; have c3 := HBY.out.cell 1; simp at c0 c1 c2 c3; clear ho)
      | (go_at_call 27; refine (within_any _ _ l m b c _ _ _ HV.out HU.out).mono ?_; rw [FW.out]; rintro e w9 ⟨rfl, ho⟩; have HC := hide (HC.out.trans ho); have HV := hide (HV.out.only ho (by simp)); have HU := hide (HU.out.only ho (by simp)); have HX := hide (HX.out.only ho (by simp)); have HT := hide (HT.out.only ho (by simp)); have HBX := hide (HBX.out.only ho (by simp)); have HBY := hide (HBY.out.only ho (by simp)); have c0 := HBX.out.cell 0; have c1 := HBX.out.cell 1; have c2 := HBY.out.cell 0; have c3 := HBY.out.cell 1; simp at c0 c1 c2 c3; clear ho)
      | (go_at_call_of 22 (Value.agg #[Value.slice A n cap, Value.int IntKind.i64 b]); refine (refright_any _ _ _ _ false FR.out _).mono ?_; rintro e w9 ⟨rfl, ho⟩; have HC := hide (HC.out.trans ho); have HV := hide (HV.out.only ho (by simp)); have HU := hide (HU.out.only ho (by simp)); have HX := hide (HX.out.only ho (by simp)); have HT := hide (HT.out.only ho (by simp)); have HBX := hide (HBX.out.only ho (by simp)); have HBY := hide (HBY.out.only ho (by simp)); have c0 := HBX.out.cell 0; have c1 := HBX.out.cell 1; have c2 := HBY.out.cell 0; have c3 := HBY.out.cell 1; simp at c0 c1 c2 c3; clear ho))
    go_ret
    exact ⟨by first | rfl | simp, HC.out⟩
  | true =>
    have FR := hide (show rightN n b = true by rw [hn]; exact hr)
    rw [hr] at hww
    clear hr
    cases hr2 : rightV m c with
    | false =>
      have FW := hide (show withinV l b m c = false by rw [hww, hr2]; rfl)
      have FR2 := hide (show rightN n' c = false by rw [hn']; exact hr2)
      clear hr2 hn hn' hww
      go_enter Tryd.func6, Tryd.ntmps6
      go_wp2_with (first
        | (go_at_call 19; rw [← HW0.out, ← HG.out]; refine (HAW.out _ HT.out).mono ?_; rintro e w1 ⟨rfl, ho⟩; have HC := hide HO.out; have HC := hide (HC.out.trans ho); have HV := hide (HV.out.only ho (by simp)); have HU := hide (HU.out.only ho (by simp)); have HX := hide (HX.out.only ho (by simp)); have HT := hide (HT.out.only ho (by simp)); have HBX := hide (HBX.out.only ho (by simp)); have HBY := hide (HBY.out.only ho (by simp)); have c0 := HBX.out.cell 0; have c1 := HBX.out.cell 1; have c2 := HBY.out.cell 0; have c3 := HBY.out.cell 1; simp at c0 c1 c2 c3; clear ho)
        | (go_at_call 27; refine (within_any _ _ l m b c _ _ _ HV.out HU.out).mono ?_; rw [FW.out]; rintro e w9 ⟨rfl, ho⟩; have HC := hide (HC.out.trans ho); have HV := hide (HV.out.only ho (by simp)); have HU := hide (HU.out.only ho (by simp)); have HX := hide (HX.out.only ho (by simp)); have HT := hide (HT.out.only ho (by simp)); have HBX := hide (HBX.out.only ho (by simp)); have HBY := hide (HBY.out.only ho (by simp)); have c0 := HBX.out.cell 0; have c1 := HBX.out.cell 1; have c2 := HBY.out.cell 0; have c3 := HBY.out.cell 1; simp at c0 c1 c2 c3; clear ho)
        | (go_at_call_of 22 (Value.agg #[Value.slice A n cap, Value.int IntKind.i64 b]); refine (refright_any _ _ _ _ true FR.out _).mono ?_; rintro e w9 ⟨rfl, ho⟩; have HC := hide (HC.out.trans ho); have HV := hide (HV.out.only ho (by simp)); have HU := hide (HU.out.only ho (by simp)); have HX := hide (HX.out.only ho (by simp)); have HT := hide (HT.out.only ho (by simp)); have HBX := hide (HBX.out.only ho (by simp)); have HBY := hide (HBY.out.only ho (by simp)); have c0 := HBX.out.cell 0; have c1 := HBX.out.cell 1; have c2 := HBY.out.cell 0; have c3 := HBY.out.cell 1; simp at c0 c1 c2 c3; clear ho)
        | (go_at_call_of 22 (Value.agg #[Value.slice A' n' cap', Value.int IntKind.i64 c]); refine (refright_any _ _ _ _ false FR2.out _).mono ?_; rintro e w9 ⟨rfl, ho⟩; have HC := hide (HC.out.trans ho); have HV := hide (HV.out.only ho (by simp)); have HU := hide (HU.out.only ho (by simp)); have HX := hide (HX.out.only ho (by simp)); have HT := hide (HT.out.only ho (by simp)); have HBX := hide (HBX.out.only ho (by simp)); have HBY := hide (HBY.out.only ho (by simp)); have c0 := HBX.out.cell 0; have c1 := HBX.out.cell 1; have c2 := HBY.out.cell 0; have c3 := HBY.out.cell 1; simp at c0 c1 c2 c3; clear ho))
      go_ret
      exact ⟨by first | rfl | simp, HC.out⟩
    | true =>
      have FR2 := hide (show rightN n' c = true by rw [hn']; exact hr2)
      rw [hr2] at hww
      clear hr2
      by_cases hl : n = n'
      · by_cases hcb : c ≤ b
        · have FC := hide hcb
          have FWW := hww
          rw [decide_eq_true (show l.length = m.length by rw [← hn, ← hn']; exact hl), decide_eq_true hcb] at FWW
          simp only [Bool.true_and, Bool.and_self] at FWW
          subst hl
          obtain ⟨hh, hhh⟩ : ∃ hh, hh = hasV m c l := ⟨_, rfl⟩
          have FHR := hide hhh.symm
          have FW := hide (FWW.trans hhh.symm)
          obtain ⟨hp, hhp⟩ : ∃ hp, hp = hasV l b a := ⟨_, rfl⟩
          obtain ⟨hq, hhq⟩ : ∃ hq, hq = hasV m c a := ⟨_, rfl⟩
          have FP := hide hhp.symm
          have FQ := hide hhq.symm
          have FI := hide (show hh = true → hp = true → hq = true from fun h1 h2 => by rw [hhq]; exact within_has (by rw [FW.out]; exact h1) (by rw [← hhp]; exact h2))
          clear hn hn' hww FWW hhh hhp hhq
          cases hh with
          | false =>
            go_enter Tryd.func6, Tryd.ntmps6
            go_wp2_with (first
              | (go_at_call 19; rw [← HW0.out, ← HG.out]; refine (HAW.out _ HT.out).mono ?_; rintro e w1 ⟨rfl, ho⟩; have HC := hide HO.out; have HC := hide (HC.out.trans ho); have HV := hide (HV.out.only ho (by simp)); have HU := hide (HU.out.only ho (by simp)); have HX := hide (HX.out.only ho (by simp)); have HT := hide (HT.out.only ho (by simp)); have HBX := hide (HBX.out.only ho (by simp)); have HBY := hide (HBY.out.only ho (by simp)); have c0 := HBX.out.cell 0; have c1 := HBX.out.cell 1; have c2 := HBY.out.cell 0; have c3 := HBY.out.cell 1; simp at c0 c1 c2 c3; clear ho)
              | (go_at_call 27; refine (within_any _ _ l m b c _ _ _ HV.out HU.out).mono ?_; rw [FW.out]; rintro e w9 ⟨rfl, ho⟩; have HC := hide (HC.out.trans ho); have HV := hide (HV.out.only ho (by simp)); have HU := hide (HU.out.only ho (by simp)); have HX := hide (HX.out.only ho (by simp)); have HT := hide (HT.out.only ho (by simp)); have HBX := hide (HBX.out.only ho (by simp)); have HBY := hide (HBY.out.only ho (by simp)); have c0 := HBX.out.cell 0; have c1 := HBX.out.cell 1; have c2 := HBY.out.cell 0; have c3 := HBY.out.cell 1; simp at c0 c1 c2 c3; clear ho)
              | (go_at_call_of 22 (Value.agg #[Value.slice A n cap, Value.int IntKind.i64 b]); refine (refright_any _ _ _ _ true FR.out _).mono ?_; rintro e w9 ⟨rfl, ho⟩; have HC := hide (HC.out.trans ho); have HV := hide (HV.out.only ho (by simp)); have HU := hide (HU.out.only ho (by simp)); have HX := hide (HX.out.only ho (by simp)); have HT := hide (HT.out.only ho (by simp)); have HBX := hide (HBX.out.only ho (by simp)); have HBY := hide (HBY.out.only ho (by simp)); have c0 := HBX.out.cell 0; have c1 := HBX.out.cell 1; have c2 := HBY.out.cell 0; have c3 := HBY.out.cell 1; simp at c0 c1 c2 c3; clear ho)
              | (go_at_call_of 22 (Value.agg #[Value.slice A' n cap', Value.int IntKind.i64 c]); refine (refright_any _ _ _ _ true FR2.out _).mono ?_; rintro e w9 ⟨rfl, ho⟩; have HC := hide (HC.out.trans ho); have HV := hide (HV.out.only ho (by simp)); have HU := hide (HU.out.only ho (by simp)); have HX := hide (HX.out.only ho (by simp)); have HT := hide (HT.out.only ho (by simp)); have HBX := hide (HBX.out.only ho (by simp)); have HBY := hide (HBY.out.only ho (by simp)); have c0 := HBX.out.cell 0; have c1 := HBX.out.cell 1; have c2 := HBY.out.cell 0; have c3 := HBY.out.cell 1; simp at c0 c1 c2 c3; clear ho)
              | (go_at_call_of 24 (Value.agg #[Value.slice A' n cap', Value.int IntKind.i64 c]); refine (refhas_any _ _ m l c _ _ _ HU.out HV.out).mono ?_; rw [FHR.out]; rintro e w9 ⟨rfl, ho⟩; have HC := hide (HC.out.trans ho); have HV := hide (HV.out.only ho (by simp)); have HU := hide (HU.out.only ho (by simp)); have HX := hide (HX.out.only ho (by simp)); have HT := hide (HT.out.only ho (by simp)); have HBX := hide (HBX.out.only ho (by simp)); have HBY := hide (HBY.out.only ho (by simp)); have c0 := HBX.out.cell 0; have c1 := HBX.out.cell 1; have c2 := HBY.out.cell 0; have c3 := HBY.out.cell 1; simp at c0 c1 c2 c3; clear ho))
            go_ret
            exact ⟨by first | rfl | simp, HC.out⟩
          | true =>
            cases hp with
            | false =>
              go_enter Tryd.func6, Tryd.ntmps6
              go_wp2_with (first
                | (go_at_call 19; rw [← HW0.out, ← HG.out]; refine (HAW.out _ HT.out).mono ?_; rintro e w1 ⟨rfl, ho⟩; have HC := hide HO.out; have HC := hide (HC.out.trans ho); have HV := hide (HV.out.only ho (by simp)); have HU := hide (HU.out.only ho (by simp)); have HX := hide (HX.out.only ho (by simp)); have HT := hide (HT.out.only ho (by simp)); have HBX := hide (HBX.out.only ho (by simp)); have HBY := hide (HBY.out.only ho (by simp)); have c0 := HBX.out.cell 0; have c1 := HBX.out.cell 1; have c2 := HBY.out.cell 0; have c3 := HBY.out.cell 1; simp at c0 c1 c2 c3; clear ho)
                | (go_at_call 27; refine (within_any _ _ l m b c _ _ _ HV.out HU.out).mono ?_; rw [FW.out]; rintro e w9 ⟨rfl, ho⟩; have HC := hide (HC.out.trans ho); have HV := hide (HV.out.only ho (by simp)); have HU := hide (HU.out.only ho (by simp)); have HX := hide (HX.out.only ho (by simp)); have HT := hide (HT.out.only ho (by simp)); have HBX := hide (HBX.out.only ho (by simp)); have HBY := hide (HBY.out.only ho (by simp)); have c0 := HBX.out.cell 0; have c1 := HBX.out.cell 1; have c2 := HBY.out.cell 0; have c3 := HBY.out.cell 1; simp at c0 c1 c2 c3; clear ho)
                | (go_at_call_of 22 (Value.agg #[Value.slice A n cap, Value.int IntKind.i64 b]); refine (refright_any _ _ _ _ true FR.out _).mono ?_; rintro e w9 ⟨rfl, ho⟩; have HC := hide (HC.out.trans ho); have HV := hide (HV.out.only ho (by simp)); have HU := hide (HU.out.only ho (by simp)); have HX := hide (HX.out.only ho (by simp)); have HT := hide (HT.out.only ho (by simp)); have HBX := hide (HBX.out.only ho (by simp)); have HBY := hide (HBY.out.only ho (by simp)); have c0 := HBX.out.cell 0; have c1 := HBX.out.cell 1; have c2 := HBY.out.cell 0; have c3 := HBY.out.cell 1; simp at c0 c1 c2 c3; clear ho)
                | (go_at_call_of 22 (Value.agg #[Value.slice A' n cap', Value.int IntKind.i64 c]); refine (refright_any _ _ _ _ true FR2.out _).mono ?_; rintro e w9 ⟨rfl, ho⟩; have HC := hide (HC.out.trans ho); have HV := hide (HV.out.only ho (by simp)); have HU := hide (HU.out.only ho (by simp)); have HX := hide (HX.out.only ho (by simp)); have HT := hide (HT.out.only ho (by simp)); have HBX := hide (HBX.out.only ho (by simp)); have HBY := hide (HBY.out.only ho (by simp)); have c0 := HBX.out.cell 0; have c1 := HBX.out.cell 1; have c2 := HBY.out.cell 0; have c3 := HBY.out.cell 1; simp at c0 c1 c2 c3; clear ho)
                | (go_at_call_of 24 (Value.agg #[Value.slice A' n cap', Value.int IntKind.i64 c]); refine (refhas_any _ _ m l c _ _ _ HU.out HV.out).mono ?_; rw [FHR.out]; rintro e w9 ⟨rfl, ho⟩; have HC := hide (HC.out.trans ho); have HV := hide (HV.out.only ho (by simp)); have HU := hide (HU.out.only ho (by simp)); have HX := hide (HX.out.only ho (by simp)); have HT := hide (HT.out.only ho (by simp)); have HBX := hide (HBX.out.only ho (by simp)); have HBY := hide (HBY.out.only ho (by simp)); have c0 := HBX.out.cell 0; have c1 := HBX.out.cell 1; have c2 := HBY.out.cell 0; have c3 := HBY.out.cell 1; simp at c0 c1 c2 c3; clear ho)
                | (go_at_call_of 23 (Value.agg #[Value.slice A n cap, Value.int IntKind.i64 b]); refine (has_any _ _ l a b _ _ _ HV.out HX.out).mono ?_; rw [FP.out]; rintro e w9 ⟨rfl, ho⟩; have HC := hide (HC.out.trans ho); have HV := hide (HV.out.only ho (by simp)); have HU := hide (HU.out.only ho (by simp)); have HX := hide (HX.out.only ho (by simp)); have HT := hide (HT.out.only ho (by simp)); have HBX := hide (HBX.out.only ho (by simp)); have HBY := hide (HBY.out.only ho (by simp)); have c0 := HBX.out.cell 0; have c1 := HBX.out.cell 1; have c2 := HBY.out.cell 0; have c3 := HBY.out.cell 1; simp at c0 c1 c2 c3; clear ho))
              go_ret
              exact ⟨by first | rfl | simp, HC.out⟩
            | true =>
              have FQ := hide (FQ.out.trans (FI.out rfl rfl))
              go_enter Tryd.func6, Tryd.ntmps6
              go_wp2_with (first
                | (go_at_call 19; rw [← HW0.out, ← HG.out]; refine (HAW.out _ HT.out).mono ?_; rintro e w1 ⟨rfl, ho⟩; have HC := hide HO.out; have HC := hide (HC.out.trans ho); have HV := hide (HV.out.only ho (by simp)); have HU := hide (HU.out.only ho (by simp)); have HX := hide (HX.out.only ho (by simp)); have HT := hide (HT.out.only ho (by simp)); have HBX := hide (HBX.out.only ho (by simp)); have HBY := hide (HBY.out.only ho (by simp)); have c0 := HBX.out.cell 0; have c1 := HBX.out.cell 1; have c2 := HBY.out.cell 0; have c3 := HBY.out.cell 1; simp at c0 c1 c2 c3; clear ho)
                | (go_at_call 27; refine (within_any _ _ l m b c _ _ _ HV.out HU.out).mono ?_; rw [FW.out]; rintro e w9 ⟨rfl, ho⟩; have HC := hide (HC.out.trans ho); have HV := hide (HV.out.only ho (by simp)); have HU := hide (HU.out.only ho (by simp)); have HX := hide (HX.out.only ho (by simp)); have HT := hide (HT.out.only ho (by simp)); have HBX := hide (HBX.out.only ho (by simp)); have HBY := hide (HBY.out.only ho (by simp)); have c0 := HBX.out.cell 0; have c1 := HBX.out.cell 1; have c2 := HBY.out.cell 0; have c3 := HBY.out.cell 1; simp at c0 c1 c2 c3; clear ho)
                | (go_at_call_of 22 (Value.agg #[Value.slice A n cap, Value.int IntKind.i64 b]); refine (refright_any _ _ _ _ true FR.out _).mono ?_; rintro e w9 ⟨rfl, ho⟩; have HC := hide (HC.out.trans ho); have HV := hide (HV.out.only ho (by simp)); have HU := hide (HU.out.only ho (by simp)); have HX := hide (HX.out.only ho (by simp)); have HT := hide (HT.out.only ho (by simp)); have HBX := hide (HBX.out.only ho (by simp)); have HBY := hide (HBY.out.only ho (by simp)); have c0 := HBX.out.cell 0; have c1 := HBX.out.cell 1; have c2 := HBY.out.cell 0; have c3 := HBY.out.cell 1; simp at c0 c1 c2 c3; clear ho)
                | (go_at_call_of 22 (Value.agg #[Value.slice A' n cap', Value.int IntKind.i64 c]); refine (refright_any _ _ _ _ true FR2.out _).mono ?_; rintro e w9 ⟨rfl, ho⟩; have HC := hide (HC.out.trans ho); have HV := hide (HV.out.only ho (by simp)); have HU := hide (HU.out.only ho (by simp)); have HX := hide (HX.out.only ho (by simp)); have HT := hide (HT.out.only ho (by simp)); have HBX := hide (HBX.out.only ho (by simp)); have HBY := hide (HBY.out.only ho (by simp)); have c0 := HBX.out.cell 0; have c1 := HBX.out.cell 1; have c2 := HBY.out.cell 0; have c3 := HBY.out.cell 1; simp at c0 c1 c2 c3; clear ho)
                | (go_at_call_of 24 (Value.agg #[Value.slice A' n cap', Value.int IntKind.i64 c]); refine (refhas_any _ _ m l c _ _ _ HU.out HV.out).mono ?_; rw [FHR.out]; rintro e w9 ⟨rfl, ho⟩; have HC := hide (HC.out.trans ho); have HV := hide (HV.out.only ho (by simp)); have HU := hide (HU.out.only ho (by simp)); have HX := hide (HX.out.only ho (by simp)); have HT := hide (HT.out.only ho (by simp)); have HBX := hide (HBX.out.only ho (by simp)); have HBY := hide (HBY.out.only ho (by simp)); have c0 := HBX.out.cell 0; have c1 := HBX.out.cell 1; have c2 := HBY.out.cell 0; have c3 := HBY.out.cell 1; simp at c0 c1 c2 c3; clear ho)
                | (go_at_call_of 23 (Value.agg #[Value.slice A n cap, Value.int IntKind.i64 b]); refine (has_any _ _ l a b _ _ _ HV.out HX.out).mono ?_; rw [FP.out]; rintro e w9 ⟨rfl, ho⟩; have HC := hide (HC.out.trans ho); have HV := hide (HV.out.only ho (by simp)); have HU := hide (HU.out.only ho (by simp)); have HX := hide (HX.out.only ho (by simp)); have HT := hide (HT.out.only ho (by simp)); have HBX := hide (HBX.out.only ho (by simp)); have HBY := hide (HBY.out.only ho (by simp)); have c0 := HBX.out.cell 0; have c1 := HBX.out.cell 1; have c2 := HBY.out.cell 0; have c3 := HBY.out.cell 1; simp at c0 c1 c2 c3; clear ho)
                | (go_at_call_of 23 (Value.agg #[Value.slice A' n cap', Value.int IntKind.i64 c]); refine (has_any _ _ m a c _ _ _ HU.out HX.out).mono ?_; rw [FQ.out]; rintro e w9 ⟨rfl, ho⟩; have HC := hide (HC.out.trans ho); have HV := hide (HV.out.only ho (by simp)); have HU := hide (HU.out.only ho (by simp)); have HX := hide (HX.out.only ho (by simp)); have HT := hide (HT.out.only ho (by simp)); have HBX := hide (HBX.out.only ho (by simp)); have HBY := hide (HBY.out.only ho (by simp)); have c0 := HBX.out.cell 0; have c1 := HBX.out.cell 1; have c2 := HBY.out.cell 0; have c3 := HBY.out.cell 1; simp at c0 c1 c2 c3; clear ho))
              go_ret
              exact ⟨by first | rfl | simp, HC.out⟩
        · have FW := hide (show withinV l b m c = false by rw [hww, decide_eq_false hcb]; simp)
          subst hl
          clear hn hn' hww
          go_enter Tryd.func6, Tryd.ntmps6
          go_wp2_with (first
            | (go_at_call 19; rw [← HW0.out, ← HG.out]; refine (HAW.out _ HT.out).mono ?_; rintro e w1 ⟨rfl, ho⟩; have HC := hide HO.out; have HC := hide (HC.out.trans ho); have HV := hide (HV.out.only ho (by simp)); have HU := hide (HU.out.only ho (by simp)); have HX := hide (HX.out.only ho (by simp)); have HT := hide (HT.out.only ho (by simp)); have HBX := hide (HBX.out.only ho (by simp)); have HBY := hide (HBY.out.only ho (by simp)); have c0 := HBX.out.cell 0; have c1 := HBX.out.cell 1; have c2 := HBY.out.cell 0; have c3 := HBY.out.cell 1; simp at c0 c1 c2 c3; clear ho)
            | (go_at_call 27; refine (within_any _ _ l m b c _ _ _ HV.out HU.out).mono ?_; rw [FW.out]; rintro e w9 ⟨rfl, ho⟩; have HC := hide (HC.out.trans ho); have HV := hide (HV.out.only ho (by simp)); have HU := hide (HU.out.only ho (by simp)); have HX := hide (HX.out.only ho (by simp)); have HT := hide (HT.out.only ho (by simp)); have HBX := hide (HBX.out.only ho (by simp)); have HBY := hide (HBY.out.only ho (by simp)); have c0 := HBX.out.cell 0; have c1 := HBX.out.cell 1; have c2 := HBY.out.cell 0; have c3 := HBY.out.cell 1; simp at c0 c1 c2 c3; clear ho)
            | (go_at_call_of 22 (Value.agg #[Value.slice A n cap, Value.int IntKind.i64 b]); refine (refright_any _ _ _ _ true FR.out _).mono ?_; rintro e w9 ⟨rfl, ho⟩; have HC := hide (HC.out.trans ho); have HV := hide (HV.out.only ho (by simp)); have HU := hide (HU.out.only ho (by simp)); have HX := hide (HX.out.only ho (by simp)); have HT := hide (HT.out.only ho (by simp)); have HBX := hide (HBX.out.only ho (by simp)); have HBY := hide (HBY.out.only ho (by simp)); have c0 := HBX.out.cell 0; have c1 := HBX.out.cell 1; have c2 := HBY.out.cell 0; have c3 := HBY.out.cell 1; simp at c0 c1 c2 c3; clear ho)
            | (go_at_call_of 22 (Value.agg #[Value.slice A' n cap', Value.int IntKind.i64 c]); refine (refright_any _ _ _ _ true FR2.out _).mono ?_; rintro e w9 ⟨rfl, ho⟩; have HC := hide (HC.out.trans ho); have HV := hide (HV.out.only ho (by simp)); have HU := hide (HU.out.only ho (by simp)); have HX := hide (HX.out.only ho (by simp)); have HT := hide (HT.out.only ho (by simp)); have HBX := hide (HBX.out.only ho (by simp)); have HBY := hide (HBY.out.only ho (by simp)); have c0 := HBX.out.cell 0; have c1 := HBX.out.cell 1; have c2 := HBY.out.cell 0; have c3 := HBY.out.cell 1; simp at c0 c1 c2 c3; clear ho))
          go_ret
          exact ⟨by first | rfl | simp, HC.out⟩
      · have hlI : ((n : Int) == n') = false := by rw [beq_eq_false_iff_ne]; omega
        have FW := hide (show withinV l b m c = false by rw [hww, decide_eq_false (show ¬ l.length = m.length by rw [← hn, ← hn']; exact hl)]; simp)
        clear hn hn' hww hl
        go_enter Tryd.func6, Tryd.ntmps6
        go_wp2_with (first
          | (go_at_call 19; rw [← HW0.out, ← HG.out]; refine (HAW.out _ HT.out).mono ?_; rintro e w1 ⟨rfl, ho⟩; have HC := hide HO.out; have HC := hide (HC.out.trans ho); have HV := hide (HV.out.only ho (by simp)); have HU := hide (HU.out.only ho (by simp)); have HX := hide (HX.out.only ho (by simp)); have HT := hide (HT.out.only ho (by simp)); have HBX := hide (HBX.out.only ho (by simp)); have HBY := hide (HBY.out.only ho (by simp)); have c0 := HBX.out.cell 0; have c1 := HBX.out.cell 1; have c2 := HBY.out.cell 0; have c3 := HBY.out.cell 1; simp at c0 c1 c2 c3; clear ho)
          | (go_at_call 27; refine (within_any _ _ l m b c _ _ _ HV.out HU.out).mono ?_; rw [FW.out]; rintro e w9 ⟨rfl, ho⟩; have HC := hide (HC.out.trans ho); have HV := hide (HV.out.only ho (by simp)); have HU := hide (HU.out.only ho (by simp)); have HX := hide (HX.out.only ho (by simp)); have HT := hide (HT.out.only ho (by simp)); have HBX := hide (HBX.out.only ho (by simp)); have HBY := hide (HBY.out.only ho (by simp)); have c0 := HBX.out.cell 0; have c1 := HBX.out.cell 1; have c2 := HBY.out.cell 0; have c3 := HBY.out.cell 1; simp at c0 c1 c2 c3; clear ho)
          | (go_at_call_of 22 (Value.agg #[Value.slice A n cap, Value.int IntKind.i64 b]); refine (refright_any _ _ _ _ true FR.out _).mono ?_; rintro e w9 ⟨rfl, ho⟩; have HC := hide (HC.out.trans ho); have HV := hide (HV.out.only ho (by simp)); have HU := hide (HU.out.only ho (by simp)); have HX := hide (HX.out.only ho (by simp)); have HT := hide (HT.out.only ho (by simp)); have HBX := hide (HBX.out.only ho (by simp)); have HBY := hide (HBY.out.only ho (by simp)); have c0 := HBX.out.cell 0; have c1 := HBX.out.cell 1; have c2 := HBY.out.cell 0; have c3 := HBY.out.cell 1; simp at c0 c1 c2 c3; clear ho)
          | (go_at_call_of 22 (Value.agg #[Value.slice A' n' cap', Value.int IntKind.i64 c]); refine (refright_any _ _ _ _ true FR2.out _).mono ?_; rintro e w9 ⟨rfl, ho⟩; have HC := hide (HC.out.trans ho); have HV := hide (HV.out.only ho (by simp)); have HU := hide (HU.out.only ho (by simp)); have HX := hide (HX.out.only ho (by simp)); have HT := hide (HT.out.only ho (by simp)); have HBX := hide (HBX.out.only ho (by simp)); have HBY := hide (HBY.out.only ho (by simp)); have c0 := HBX.out.cell 0; have c1 := HBX.out.cell 1; have c2 := HBY.out.cell 0; have c3 := HBY.out.cell 1; simp at c0 c1 c2 c3; clear ho))
        go_ret
        exact ⟨by first | rfl | simp, HC.out⟩
end Go.Proofs.YtjkgmkkhjpcngaaDoor

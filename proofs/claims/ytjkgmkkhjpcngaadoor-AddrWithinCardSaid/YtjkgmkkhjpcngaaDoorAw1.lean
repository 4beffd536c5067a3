/-
  The law AddrHas, by walking. Condition: the library's table of powers of ten reads as it was laid.
-/
import Derived.Test.YtjkgmkkhjpcngaaDoorAp2
namespace Go.Proofs.YtjkgmkkhjpcngaaDoor
open Go.RowKit Go.Deep

abbrev TrueP (w : World) (e : Ending) (w' : World) : Prop := e = .returned (.bool true) ∧ Only [] w w'

theorem Plain_yes2 (n : Nat) (v : Value) (l : List UInt8) (b : Nat) (N : List Nat) (w : World) (hv : Rd w N v (ints .u8 (byts l))) (hr : rightV l b = true) (hn : n = l.length) :
    Calls Tryd.prog 20 #[.agg #[v, .int .i64 b]] w fun e w' => ∃ A cap, e = .returned (.tuple #[.agg #[.slice A n cap, .int .i64 b], .int .i64 0]) ∧ Rd w' [] (.slice A n cap) (ints .u8 (byts (plainV l b))) ∧ Only [] w w' :=
  (Plain_yes v l b N w hv hr).mono fun e w' h => by
    obtain ⟨u, rfl, hrd, ho⟩ := h
    obtain ⟨A, cap, rfl, _, _⟩ := hrd.formb
    rw [plain_length, ← hn] at hrd ⊢
    exact ⟨A, cap, rfl, hrd, ho⟩
theorem refsame_refl (v u : Value) (l : List UInt8) (b : Int) (N M : List Nat) (w : World) (hv : Rd w N v (ints .u8 (byts l))) (hu : Rd w M u (ints .u8 (byts l))) :
    Calls Tryd.prog 25 #[.agg #[v, .int .i64 b], .agg #[u, .int .i64 b]] w (RetB true w) :=
  (refsame_any v u l l b b N M w hv hu).mono fun _ _ h => bit_retb h (by simp)
theorem undrew {S : List Nat} {w w' : World} (h : Only S w.drew w') : Only S w w' := ⟨h.os, h.tape, h.output, h.size, h.block⟩

set_option maxRecDepth 100000 in
set_option maxHeartbeats 12800000 in
theorem addrHas_walk (v u : Value) (l m : List UInt8) (b : Int) (w : World) (hv : Rd w [] v (ints .u8 (byts l))) (hu : Rd w [] u (ints .u8 (byts m))) (htab : Tab w) :
    Calls Tryd.prog 5 #[.agg #[v, .int .i64 b], u] w (TrueP w) := by
  have HO := hide ((Only.refl [] w).alloc (.cells #[v, .int .i64 b] 36))
  have HV := hide (hv.only HO.out (by simp))
  have HU := hide (hu.only HO.out (by simp))
  have HBX := hide (Blk.new w 36 #[v, .int .i64 b])
  have HT := hide (htab.only HO.out (by simp))
  obtain ⟨A, cap, rfl, hcp, hcm⟩ := hv.formb
  obtain ⟨A', cap', rfl, hcp', hcm'⟩ := hu.formb
  clear hv hu htab
  obtain ⟨n, hn⟩ : ∃ n, n = l.length := ⟨_, rfl⟩
  obtain ⟨n', hn'⟩ : ∃ n', n' = m.length := ⟨_, rfl⟩
  rw [← hn] at HV HU HBX HT HO hcp ⊢
  rw [← hn'] at HU hcp' ⊢
  have HN := hide hn
  have HN' := hide hn'
  obtain ⟨G, hG⟩ : ∃ G, G = w.heap.size := ⟨_, rfl⟩
  rw [← hG] at HBX
  have HG := hide hG
  obtain ⟨w0, hw0⟩ : ∃ w0, w0 = w.alloc (.cells #[.slice A n cap, .int .i64 b] 36) := ⟨_, rfl⟩
  have HW0 := hide hw0
  rw [← hw0] at HO HV HU HT HBX
  clear hw0 hG hn hn'
  have HAW := hide (fun W ht => awake04 W ht)
  by_cases hbig : 40 < n
  · have h1 : (40 : Int) < n := by omega
    go_enter Tryd.func5, Tryd.ntmps5
    go_wp2_with (go_at_call 19; rw [← HW0.out, ← HG.out]; refine (HAW.out _ HT.out).mono ?_; rintro e w1 ⟨rfl, ho⟩; have HC := hide (HO.out.trans ho); have HBX := hide (HBX.out.only ho (by simp)); have c0 := HBX.out.cell 0; have c1 := HBX.out.cell 1; simp at c0 c1; (first | (have HQ := hide (HQ.out.only ho (by simp)); have q0 := HQ.out.cell 0; have q1 := HQ.out.cell 1; simp at q0 q1) | skip); clear ho)
    go_ret
    exact ⟨rfl, HC.out⟩
  · have h1 : ¬ (40 : Int) < n := by omega
    by_cases hbig' : 40 < n'
    · have h2 : (40 : Int) < n' := by omega
      go_enter Tryd.func5, Tryd.ntmps5
      go_wp2_with (go_at_call 19; rw [← HW0.out, ← HG.out]; refine (HAW.out _ HT.out).mono ?_; rintro e w1 ⟨rfl, ho⟩; have HC := hide (HO.out.trans ho); have HBX := hide (HBX.out.only ho (by simp)); have c0 := HBX.out.cell 0; have c1 := HBX.out.cell 1; simp at c0 c1; (first | (have HQ := hide (HQ.out.only ho (by simp)); have q0 := HQ.out.cell 0; have q1 := HQ.out.cell 1; simp at q0 q1) | skip); clear ho)
      go_ret
      exact ⟨rfl, HC.out⟩
    · have h2 : ¬ (40 : Int) < n' := by omega
      cases hr : rightV l b with
      | false =>
        have FRV := hide hr
        have FR := hide (show rightN n b = false by rw [HN.out]; exact hr)
        have FH := hide (show hasV l b m = false by unfold hasV; rw [hr]; rfl)
        clear hr
        go_enter Tryd.func5, Tryd.ntmps5
        go_upto_region 6 with (first
          | (go_at_call 19; rw [← HW0.out, ← HG.out]; refine (HAW.out _ HT.out).mono ?_; rintro e w1 ⟨rfl, ho⟩; have HC := hide HO.out; (first | (have ho := undrew ho) | skip); have HC := hide (HC.out.trans ho); have HV := hide (HV.out.only ho (by simp)); have HU := hide (HU.out.only ho (by simp)); have HT := hide (HT.out.only ho (by simp)); have HBX := hide (HBX.out.only ho (by simp)); have c0 := HBX.out.cell 0; have c1 := HBX.out.cell 1; simp at c0 c1; (first | (have HQ := hide (HQ.out.only ho (by simp)); have q0 := HQ.out.cell 0; have q1 := HQ.out.cell 1; simp at q0 q1) | skip); clear ho)
          | (go_at_call 20; refine (Plain_no _ l b _ _ HV.out FRV.out).mono ?_; rintro e w9 ⟨rfl, ho⟩; have HQ := hide (Blk.new w9 36 #[.slice none 0 0, .int .i64 0]); have ho := ho.alloc (.cells #[.slice none 0 0, .int .i64 0] 36); (first | (have ho := undrew ho) | skip); have HC := hide (HC.out.trans ho); have HV := hide (HV.out.only ho (by simp)); have HU := hide (HU.out.only ho (by simp)); have HT := hide (HT.out.only ho (by simp)); have HBX := hide (HBX.out.only ho (by simp)); have c0 := HBX.out.cell 0; have c1 := HBX.out.cell 1; simp at c0 c1; (first | (have HQ := hide (HQ.out.only ho (by simp)); have q0 := HQ.out.cell 0; have q1 := HQ.out.cell 1; simp at q0 q1) | skip); clear ho; have HGQ := hide (show w9.heap.size = w9.heap.size from rfl)))
        generalize w9.heap.size = Q at *
        go_region_held3 (fun w' => w'.cell? ⟨G, 0, none⟩ = some (.slice A n cap) ∧ w'.cell? ⟨G, 1, none⟩ = some (.int .i64 b)) (exact ⟨c0, c1⟩) (first
          | (go_at_call 21; refine (right_any _ _ _ _ false FR.out _).mono ?_; rintro e w9 ⟨rfl, ho⟩; (first | (have ho := undrew ho) | skip); have HC := hide (HC.out.trans ho); have HV := hide (HV.out.only ho (by simp)); have HU := hide (HU.out.only ho (by simp)); have HT := hide (HT.out.only ho (by simp)); have HBX := hide (HBX.out.only ho (by simp)); have c0 := HBX.out.cell 0; have c1 := HBX.out.cell 1; simp at c0 c1; (first | (have HQ := hide (HQ.out.only ho (by simp)); have q0 := HQ.out.cell 0; have q1 := HQ.out.cell 1; simp at q0 q1) | skip); clear ho)
          | (go_at_call 22; refine (refright_any _ _ _ _ false FR.out _).mono ?_; rintro e w9 ⟨rfl, ho⟩; (first | (have ho := undrew ho) | skip); have HC := hide (HC.out.trans ho); have HV := hide (HV.out.only ho (by simp)); have HU := hide (HU.out.only ho (by simp)); have HT := hide (HT.out.only ho (by simp)); have HBX := hide (HBX.out.only ho (by simp)); have c0 := HBX.out.cell 0; have c1 := HBX.out.cell 1; simp at c0 c1; (first | (have HQ := hide (HQ.out.only ho (by simp)); have q0 := HQ.out.cell 0; have q1 := HQ.out.cell 1; simp at q0 q1) | skip); clear ho)
          | (go_at_call 23; refine (has_any _ _ l m b _ _ _ HV.out HU.out).mono ?_; rw [FH.out]; rintro e w9 ⟨rfl, ho⟩; (first | (have ho := undrew ho) | skip); have HC := hide (HC.out.trans ho); have HV := hide (HV.out.only ho (by simp)); have HU := hide (HU.out.only ho (by simp)); have HT := hide (HT.out.only ho (by simp)); have HBX := hide (HBX.out.only ho (by simp)); have c0 := HBX.out.cell 0; have c1 := HBX.out.cell 1; simp at c0 c1; (first | (have HQ := hide (HQ.out.only ho (by simp)); have q0 := HQ.out.cell 0; have q1 := HQ.out.cell 1; simp at q0 q1) | skip); clear ho)
          | (go_at_call 24; refine (refhas_any _ _ l m b _ _ _ HV.out HU.out).mono ?_; rw [FH.out]; rintro e w9 ⟨rfl, ho⟩; (first | (have ho := undrew ho) | skip); have HC := hide (HC.out.trans ho); have HV := hide (HV.out.only ho (by simp)); have HU := hide (HU.out.only ho (by simp)); have HT := hide (HT.out.only ho (by simp)); have HBX := hide (HBX.out.only ho (by simp)); have c0 := HBX.out.cell 0; have c1 := HBX.out.cell 1; simp at c0 c1; (first | (have HQ := hide (HQ.out.only ho (by simp)); have q0 := HQ.out.cell 0; have q1 := HQ.out.cell 1; simp at q0 q1) | skip); clear ho))
        all_goals
          go_wp2_with (go_at_call 22; refine (refright_any _ _ _ _ false FR.out _).mono ?_; rintro e w9 ⟨rfl, ho⟩; (first | (have ho := undrew ho) | skip); have HC := hide (HC.out.trans ho); have HV := hide (HV.out.only ho (by simp)); have HU := hide (HU.out.only ho (by simp)); have HT := hide (HT.out.only ho (by simp)); have HBX := hide (HBX.out.only ho (by simp)); have c0 := HBX.out.cell 0; have c1 := HBX.out.cell 1; simp at c0 c1; (first | (have HQ := hide (HQ.out.only ho (by simp)); have q0 := HQ.out.cell 0; have q1 := HQ.out.cell 1; simp at q0 q1) | skip); clear ho)
          go_ret
          exact ⟨rfl, HC.out⟩
      | true =>
        obtain ⟨bn, rfl, hbn, h416⟩ := right_nat2 hr
        have FRV := hide hr
        have FR := hide (show rightN n (bn : Int) = true by rw [HN.out]; exact hr)
        obtain ⟨hh, hhh⟩ : ∃ hh, hh = hasV l (bn : Int) m := ⟨_, rfl⟩
        have FH := hide hhh.symm
        have FQ := hide (show hasV (plainV l bn) (bn : Int) m = hh by rw [hhh]; exact has_plain l m (bn : Int))
        rw [← HN.out] at hbn h416
        have hn16 : n ≤ 16 := by omega
        clear hr hhh h416
        go_enter Tryd.func5, Tryd.ntmps5
        go_upto_region 6 with (first
          | (go_at_call 19; rw [← HW0.out, ← HG.out]; refine (HAW.out _ HT.out).mono ?_; rintro e w1 ⟨rfl, ho⟩; have HC := hide HO.out; (first | (have ho := undrew ho) | skip); have HC := hide (HC.out.trans ho); have HV := hide (HV.out.only ho (by simp)); have HU := hide (HU.out.only ho (by simp)); have HT := hide (HT.out.only ho (by simp)); have HBX := hide (HBX.out.only ho (by simp)); have c0 := HBX.out.cell 0; have c1 := HBX.out.cell 1; simp at c0 c1; (first | (have HQ := hide (HQ.out.only ho (by simp)); have q0 := HQ.out.cell 0; have q1 := HQ.out.cell 1; simp at q0 q1) | skip); (first | (have HRQ := hide (HRQ.out.only ho (by simp))) | skip); (first | (have HRS := hide (HRS.out.only ho (by simp))) | skip); clear ho)
          | (go_at_call 20; refine (Plain_yes2 n _ l bn _ _ HV.out FRV.out HN.out).mono ?_; rintro e w9 ⟨Aq, cq, rfl, hrq, ho⟩; have HQ := hide (Blk.new w9 36 #[.slice Aq n cq, .int .i64 (bn : Int)]); have HRQ := hide (hrq.only ((Only.refl [] w9).alloc (.cells #[.slice Aq n cq, .int .i64 (bn : Int)] 36)) (by simp)); have ho := ho.alloc (.cells #[.slice Aq n cq, .int .i64 (bn : Int)] 36); clear hrq; (first | (have ho := undrew ho) | skip); have HC := hide (HC.out.trans ho); have HV := hide (HV.out.only ho (by simp)); have HU := hide (HU.out.only ho (by simp)); have HT := hide (HT.out.only ho (by simp)); have HBX := hide (HBX.out.only ho (by simp)); have c0 := HBX.out.cell 0; have c1 := HBX.out.cell 1; simp at c0 c1; (first | (have HQ := hide (HQ.out.only ho (by simp)); have q0 := HQ.out.cell 0; have q1 := HQ.out.cell 1; simp at q0 q1) | skip); (first | (have HRQ := hide (HRQ.out.only ho (by simp))) | skip); (first | (have HRS := hide (HRS.out.only ho (by simp))) | skip); clear ho))
        generalize w9.heap.size = Q at *
        go_region_held3 (fun w' => w'.cell? ⟨G, 0, none⟩ = some (.slice A n cap) ∧ w'.cell? ⟨G, 1, none⟩ = some (.int .i64 (bn : Int))) (exact ⟨c0, c1⟩) (first
          | (go_at_call 21; refine (right_any _ _ _ _ true FR.out _).mono ?_; rintro e w9 ⟨rfl, ho⟩; (first | (have ho := undrew ho) | skip); have HC := hide (HC.out.trans ho); have HV := hide (HV.out.only ho (by simp)); have HU := hide (HU.out.only ho (by simp)); have HT := hide (HT.out.only ho (by simp)); have HBX := hide (HBX.out.only ho (by simp)); have c0 := HBX.out.cell 0; have c1 := HBX.out.cell 1; simp at c0 c1; (first | (have HQ := hide (HQ.out.only ho (by simp)); have q0 := HQ.out.cell 0; have q1 := HQ.out.cell 1; simp at q0 q1) | skip); (first | (have HRQ := hide (HRQ.out.only ho (by simp))) | skip); (first | (have HRS := hide (HRS.out.only ho (by simp))) | skip); clear ho)
          | (go_at_call 22; refine (refright_any _ _ _ _ true FR.out _).mono ?_; rintro e w9 ⟨rfl, ho⟩; (first | (have ho := undrew ho) | skip); have HC := hide (HC.out.trans ho); have HV := hide (HV.out.only ho (by simp)); have HU := hide (HU.out.only ho (by simp)); have HT := hide (HT.out.only ho (by simp)); have HBX := hide (HBX.out.only ho (by simp)); have c0 := HBX.out.cell 0; have c1 := HBX.out.cell 1; simp at c0 c1; (first | (have HQ := hide (HQ.out.only ho (by simp)); have q0 := HQ.out.cell 0; have q1 := HQ.out.cell 1; simp at q0 q1) | skip); (first | (have HRQ := hide (HRQ.out.only ho (by simp))) | skip); (first | (have HRS := hide (HRS.out.only ho (by simp))) | skip); clear ho)
          | (go_at_call_of 23 (Value.agg #[Value.slice A n cap, Value.int IntKind.i64 (bn : Int)]); refine (has_any _ _ l m bn _ _ _ HV.out HU.out).mono ?_; rw [FH.out]; rintro e w9 ⟨rfl, ho⟩; (first | (have ho := undrew ho) | skip); have HC := hide (HC.out.trans ho); have HV := hide (HV.out.only ho (by simp)); have HU := hide (HU.out.only ho (by simp)); have HT := hide (HT.out.only ho (by simp)); have HBX := hide (HBX.out.only ho (by simp)); have c0 := HBX.out.cell 0; have c1 := HBX.out.cell 1; simp at c0 c1; (first | (have HQ := hide (HQ.out.only ho (by simp)); have q0 := HQ.out.cell 0; have q1 := HQ.out.cell 1; simp at q0 q1) | skip); (first | (have HRQ := hide (HRQ.out.only ho (by simp))) | skip); (first | (have HRS := hide (HRS.out.only ho (by simp))) | skip); clear ho)
          | (go_at_call 24; refine (refhas_any _ _ l m bn _ _ _ HV.out HU.out).mono ?_; rw [FH.out]; rintro e w9 ⟨rfl, ho⟩; (first | (have ho := undrew ho) | skip); have HC := hide (HC.out.trans ho); have HV := hide (HV.out.only ho (by simp)); have HU := hide (HU.out.only ho (by simp)); have HT := hide (HT.out.only ho (by simp)); have HBX := hide (HBX.out.only ho (by simp)); have c0 := HBX.out.cell 0; have c1 := HBX.out.cell 1; simp at c0 c1; (first | (have HQ := hide (HQ.out.only ho (by simp)); have q0 := HQ.out.cell 0; have q1 := HQ.out.cell 1; simp at q0 q1) | skip); (first | (have HRQ := hide (HRQ.out.only ho (by simp))) | skip); (first | (have HRS := hide (HRS.out.only ho (by simp))) | skip); clear ho))
        all_goals
          go_upto_region 10 with (first | (go_at_call 22; refine (refright_any _ _ _ _ true FR.out _).mono ?_; rintro e w9 ⟨rfl, ho⟩; (first | (have ho := undrew ho) | skip); have HC := hide (HC.out.trans ho); have HV := hide (HV.out.only ho (by simp)); have HU := hide (HU.out.only ho (by simp)); have HT := hide (HT.out.only ho (by simp)); have HBX := hide (HBX.out.only ho (by simp)); have c0 := HBX.out.cell 0; have c1 := HBX.out.cell 1; simp at c0 c1; (first | (have HQ := hide (HQ.out.only ho (by simp)); have q0 := HQ.out.cell 0; have q1 := HQ.out.cell 1; simp at q0 q1) | skip); (first | (have HRQ := hide (HRQ.out.only ho (by simp))) | skip); (first | (have HRS := hide (HRS.out.only ho (by simp))) | skip); clear ho))
          go_region_held3 (fun w' => w'.cell? ⟨G, 0, none⟩ = some (.slice A n cap) ∧ w'.cell? ⟨G, 1, none⟩ = some (.int .i64 (bn : Int)) ∧ w'.cell? ⟨Q, 0, none⟩ = some (.slice Aq n cq) ∧ w'.cell? ⟨Q, 1, none⟩ = some (.int .i64 (bn : Int))) (exact ⟨c0, c1, q0, q1⟩) (first
            | (go_at_call 26; refine (refplain_any _ l bn _ _ (HV.out.only (Only.refl [] _).drew (by simp)) (by rw [← HN.out]; exact hbn) (by rw [← HN.out]; omega)).mono ?_; rintro e w9 ⟨v3, rfl, hr3, ho⟩; (first | (have ho := undrew ho) | skip); have HC := hide (HC.out.trans ho); have HV := hide (HV.out.only ho (by simp)); have HU := hide (HU.out.only ho (by simp)); have HT := hide (HT.out.only ho (by simp)); have HBX := hide (HBX.out.only ho (by simp)); have c0 := HBX.out.cell 0; have c1 := HBX.out.cell 1; simp at c0 c1; (first | (have HQ := hide (HQ.out.only ho (by simp)); have q0 := HQ.out.cell 0; have q1 := HQ.out.cell 1; simp at q0 q1) | skip); (first | (have HRQ := hide (HRQ.out.only ho (by simp))) | skip); (first | (have HRS := hide (HRS.out.only ho (by simp))) | skip); clear ho; have HRS := hide hr3; clear hr3)
            | (go_at_call 25; refine (refsame_refl _ _ (plainV l bn) bn _ _ _ HRQ.out HRS.out).mono ?_; rintro e w9 ⟨rfl, ho⟩; (first | (have ho := undrew ho) | skip); have HC := hide (HC.out.trans ho); have HV := hide (HV.out.only ho (by simp)); have HU := hide (HU.out.only ho (by simp)); have HT := hide (HT.out.only ho (by simp)); have HBX := hide (HBX.out.only ho (by simp)); have c0 := HBX.out.cell 0; have c1 := HBX.out.cell 1; simp at c0 c1; (first | (have HQ := hide (HQ.out.only ho (by simp)); have q0 := HQ.out.cell 0; have q1 := HQ.out.cell 1; simp at q0 q1) | skip); (first | (have HRQ := hide (HRQ.out.only ho (by simp))) | skip); (first | (have HRS := hide (HRS.out.only ho (by simp))) | skip); clear ho)
            | (go_at_call_of 23 (Value.agg #[Value.slice Aq n cq, Value.int IntKind.i64 (bn : Int)]); refine (has_any _ _ (plainV l bn) m bn _ _ _ HRQ.out HU.out).mono ?_; rw [FQ.out]; rintro e w9 ⟨rfl, ho⟩; (first | (have ho := undrew ho) | skip); have HC := hide (HC.out.trans ho); have HV := hide (HV.out.only ho (by simp)); have HU := hide (HU.out.only ho (by simp)); have HT := hide (HT.out.only ho (by simp)); have HBX := hide (HBX.out.only ho (by simp)); have c0 := HBX.out.cell 0; have c1 := HBX.out.cell 1; simp at c0 c1; (first | (have HQ := hide (HQ.out.only ho (by simp)); have q0 := HQ.out.cell 0; have q1 := HQ.out.cell 1; simp at q0 q1) | skip); (first | (have HRQ := hide (HRQ.out.only ho (by simp))) | skip); (first | (have HRS := hide (HRS.out.only ho (by simp))) | skip); clear ho)
            | (go_at_call_of 23 (Value.agg #[Value.slice A n cap, Value.int IntKind.i64 (bn : Int)]); refine (has_any _ _ l m bn _ _ _ HV.out HU.out).mono ?_; rw [FH.out]; rintro e w9 ⟨rfl, ho⟩; (first | (have ho := undrew ho) | skip); have HC := hide (HC.out.trans ho); have HV := hide (HV.out.only ho (by simp)); have HU := hide (HU.out.only ho (by simp)); have HT := hide (HT.out.only ho (by simp)); have HBX := hide (HBX.out.only ho (by simp)); have c0 := HBX.out.cell 0; have c1 := HBX.out.cell 1; simp at c0 c1; (first | (have HQ := hide (HQ.out.only ho (by simp)); have q0 := HQ.out.cell 0; have q1 := HQ.out.cell 1; simp at q0 q1) | skip); (first | (have HRQ := hide (HRQ.out.only ho (by simp))) | skip); (first | (have HRS := hide (HRS.out.only ho (by simp))) | skip); clear ho))
          all_goals
            go_wp2_with fail
            go_ret
            exact ⟨by first | rfl | simp, HC.out⟩
end Go.Proofs.YtjkgmkkhjpcngaaDoor

/-
  Walks and plain words (texts Atw). No condition beyond those that each theorem states.
-/
import Derived.Test.YthecnaclfhfilaaDoorA15
import Derived.Test.YthecnaclfhfilaaDoorB01
namespace Go.Proofs.YthecnaclfhfilaaDoor
section
open Go.RowKit Go.Deep

theorem readA_no {s : ByteArray} (h : ¬ (readA s).2 = 0) : readA s = ([], 3) := by
  unfold readA at h ⊢
  split
  · rename_i h1
    rw [if_pos h1] at h
    unfold readCol at h ⊢
    split
    · rename_i h2; rw [if_pos h2] at h; exact absurd rfl h
    · rfl
  · rename_i h1
    rw [if_neg h1] at h
    unfold readDot at h ⊢
    split
    · rename_i h2; rw [if_pos h2] at h; exact absurd rfl h
    · rfl
theorem plain_none : isPlain [] 0 = false := by decide
theorem pfx_none {w : World} {e : Ending} {w' : World} (h : PfxPost [] 0 3 w e w') : ∃ A c, e = .returned (.tuple #[.agg #[.slice A 0 c, .int .i64 0], .int .i64 3]) ∧ Rd w' [] (.slice A 0 c) (ints .u8 (byts [])) ∧ Only [] w w' := by
  obtain ⟨v, rfl, hr, ho⟩ := h
  obtain ⟨A, c, rfl, _, _⟩ := hr.formb
  exact ⟨A, c, rfl, hr, ho⟩
theorem same_yes (v u : Value) (l : List UInt8) (N M : List Nat) (w : World) (hx : Rd w N v (ints .u8 (byts l))) (hy : Rd w M u (ints .u8 (byts l))) :
    Calls Tryd.prog 10 #[v, u] w fun e w' => e = .returned (.bool true) ∧ w = w' :=
  (same_bytes v u l l N M w hx hy).mono fun e w' h => ⟨by rw [h.1]; simp, h.2⟩
def TrueS (w : World) (e : Ending) (w' : World) : Prop := e = .returned (.bool true) ∧ Only [] w w'
set_option maxRecDepth 100000 in
set_option maxHeartbeats 12800000 in
theorem at_yy (w : World) (s : ByteArray) (hs : s.size ≤ 200) (l : List UInt8) (hA : readA s = (l, 0)) (m : List UInt8) (b : Nat) (hP : refP s = some (m, b)) (htab : Tab w) : Calls Tryd.prog 3 #[.string s] w (TrueS w) := by
  have hs2 : ¬ (200 : Int) < (s.size : Int) := by omega
  have HRA := hide (fun W => Read_addr W s (by omega))
  have HRR := hide (fun W => refRead_any W s (by omega))
  have HPA := hide (fun W => (ReadPrefix_any W s (by omega)).mono (fun e w' h => show PfxPost m b 0 W e w' from by rw [hP] at h; exact h))
  unfold PfxPost at HPA
  have HPR := hide (fun W => refReadPrefix_any W s (by omega))
  have hsame := read_same s
  rw [hA] at HRA hsame
  rw [hP] at HPR
  rw [if_pos rfl] at hsame
  rw [hsame] at HRR
  have hb := readA_back hA
  have H4 := hide hb.1
  have HS := hide (mk_back hb.2)
  have HTX := hide (fun W e (w' : World) => show TxtPost (printV l) W e w' → e = .returned (.tuple #[.string s, .int .i64 0]) ∧ Only [] W w' from fun h => ⟨by rw [mk_back hb.2]; exact h.1, h.2⟩)
  have hc := refP_back hP
  have HPL := hide hc.1
  have HSP := hide (mk_back hc.2)
  have HTP := hide (fun W e (w' : World) => show TxtPost (printV m ++ ([47] ++ Lib.decDigits b)) W e w' → e = .returned (.tuple #[.string s, .int .i64 0]) ∧ Only [] W w' from fun h => ⟨by rw [mk_back hc.2]; exact h.1, h.2⟩)
  have HT := hide htab
  have HC := hide (Only.refl [] w)
  unfold BytsPost at HRA
  unfold RRPost at HRR
  unfold RPPost at HPR
  simp only at HRA HRR HPR
  clear hsame htab hA hP
  go_enter Tryd.func3, Tryd.ntmps3
  go_upto_region 9 with (first
    | (go_at_call 5; refine (awake04 _ HT.out).mono ?_; rintro e w1 ⟨rfl, ho⟩; have HC := hide (HC.out.trans ho); have HT := hide (HT.out.only ho (by simp)); clear ho)
    | (go_at_call 6; with_reducible refine (HRA.out _).mono ?_; rintro e w2 ⟨v, rfl, ho, hr⟩; have HV := hide (hr [] (by simp)); obtain ⟨A, cap, rfl, _, _⟩ := HV.out.formb; have HC := hide (HC.out.trans ho); have HT := hide (HT.out.only ho (by simp)); clear ho hr)
    | (go_at_call 7; with_reducible refine (HRR.out _).mono ?_; rintro e w3 ⟨v3, rfl, ho, hr3⟩; have HV3 := hide (hr3 [] (by simp)); obtain ⟨A3, c3, rfl, _, _⟩ := HV3.out.formb; have HC := hide (HC.out.trans ho); have HT := hide (HT.out.only ho (by simp)); have HV := hide (HV.out.only ho (by simp)); clear ho hr3)
    | (go_at_call 8; with_reducible refine (HPA.out _).mono ?_; rintro e w4 ⟨v4, rfl, hr, ho⟩; obtain ⟨A4, c4, rfl, _, _⟩ := hr.formb; have ho := ho.alloc (.cells #[.slice A4 (List.length m) c4, .int .i64 b] 30); have HU := hide (hr.only ((Only.refl [] w4).alloc (.cells #[.slice A4 (List.length m) c4, .int .i64 b] 30)) (by simp)); have HP2 := hide (Blk.new w4 30 #[.slice A4 (List.length m) c4, .int .i64 b]); have HC := hide (HC.out.trans ho); have HT := hide (HT.out.only ho (by simp)); have HV := hide (HV.out.only ho (by simp)); have HV3 := hide (HV3.out.only ho (by simp)); clear ho hr)
    | (go_at_call 9; with_reducible refine (HPR.out _).mono ?_; rintro e w5 ⟨v5, rfl, hr5, ho⟩; obtain ⟨A5, c5, rfl, _, _⟩ := hr5.formb; have HU5 := hide (hr5.only ((Only.refl [] w5).alloc (.cells #[.slice A5 m.length c5, .int .i64 b] 30)) (by simp)); have HQ := hide (Blk.new w5 30 #[.slice A5 m.length c5, .int .i64 b]); have ho := ho.alloc (.cells #[.slice A5 m.length c5, .int .i64 b] 30); have HC := hide (HC.out.trans ho); have HT := hide (HT.out.only ho (by simp)); have HV := hide (HV.out.only ho (by simp)); have HV3 := hide (HV3.out.only ho (by simp)); have HU := hide (HU.out.only ho (by simp)); have HP2 := hide (HP2.out.only ho (by simp)); clear ho; clear hr5))
  obtain ⟨wz, hwz⟩ : ∃ wz, wz = w5.alloc (.cells #[.slice A5 m.length c5, .int .i64 b] 30) := ⟨_, rfl⟩
  rw [← hwz] at HP2 HQ HC HT HV HU HV3 HU5 ⊢
  obtain ⟨QP, hqp⟩ : ∃ QP, QP = w4.heap.size := ⟨_, rfl⟩
  obtain ⟨QQ, hqq⟩ : ∃ QQ, QQ = w5.heap.size := ⟨_, rfl⟩
  rw [← hqp] at HP2 ⊢
  rw [← hqq] at HQ ⊢
  clear hwz hqp hqq
  have p0 := HP2.out.cell 0
  have p1 := HP2.out.cell 1
  have q0 := HQ.out.cell 0
  have q1 := HQ.out.cell 1
  simp at p0 p1 q0 q1
  go_wp2_with (first
    | (go_at_call 10; refine (same_yes _ _ l _ _ _ HV.out HV3.out).mono ?_; rintro e w6 ⟨rfl, rfl⟩)
    | (go_at_call 11; refine (refsame_yes _ _ m m (b : Int) _ _ _ rfl HU.out HU5.out).mono ?_; rintro e w7 ⟨rfl, ho⟩; have HC := hide (HC.out.trans ho); have HT := hide (HT.out.only ho (by simp)); have HV := hide (HV.out.only ho (by simp)); have HU := hide (HU.out.only ho (by simp)); have HP2 := hide (HP2.out.only ho (by simp)); have HQ := hide (HQ.out.only ho (by simp)); have p0 := HP2.out.cell 0; have p1 := HP2.out.cell 1; have q0 := HQ.out.cell 0; have q1 := HQ.out.cell 1; simp at p0 p1 q0 q1; clear ho)
    | (go_at_call 12; refine ((Print_addr _ l _ _ HV.out H4.out HT.out).mono (HTX.out _)).mono ?_; rintro e w8 ⟨rfl, ho⟩; have HC := hide (HC.out.trans ho); have HT := hide (HT.out.only ho (by simp)); have HV := hide (HV.out.only ho (by simp)); have HU := hide (HU.out.only ho (by simp)); have HP2 := hide (HP2.out.only ho (by simp)); have HQ := hide (HQ.out.only ho (by simp)); have p0 := HP2.out.cell 0; have p1 := HP2.out.cell 1; have q0 := HQ.out.cell 0; have q1 := HQ.out.cell 1; simp at p0 p1 q0 q1; clear ho)
    | (go_at_call 13; refine ((pp_yes _ m b _ _ HU.out HPL.out HT.out).mono (HTP.out _)).mono ?_; rintro e w9 ⟨rfl, ho⟩; have HC := hide (HC.out.trans ho); have HT := hide (HT.out.only ho (by simp)); have HV := hide (HV.out.only ho (by simp)); have HU := hide (HU.out.only ho (by simp)); have HP2 := hide (HP2.out.only ho (by simp)); have HQ := hide (HQ.out.only ho (by simp)); have p0 := HP2.out.cell 0; have p1 := HP2.out.cell 1; have q0 := HQ.out.cell 0; have q1 := HQ.out.cell 1; simp at p0 p1 q0 q1; clear ho))
  go_ret
  exact ⟨rfl, HC.out⟩
set_option maxRecDepth 100000 in
set_option maxHeartbeats 12800000 in
theorem at_yn (w : World) (s : ByteArray) (hs : s.size ≤ 200) (l : List UInt8) (hA : readA s = (l, 0)) (hP : refP s = none) (htab : Tab w) : Calls Tryd.prog 3 #[.string s] w (TrueS w) := by
  have hs2 : ¬ (200 : Int) < (s.size : Int) := by omega
  have HRA := hide (fun W => Read_addr W s (by omega))
  have HRR := hide (fun W => refRead_any W s (by omega))
  have HPA := hide (fun W => (ReadPrefix_any W s (by omega)).mono (fun e w' h => pfx_none (w := W) (by rw [hP] at h; exact h)))
  have HPR := hide (fun W => refReadPrefix_any W s (by omega))
  have hsame := read_same s
  rw [hA] at HRA hsame
  rw [hP] at HPR
  rw [if_pos rfl] at hsame
  rw [hsame] at HRR
  have hb := readA_back hA
  have H4 := hide hb.1
  have HS := hide (mk_back hb.2)
  have HTX := hide (fun W e (w' : World) => show TxtPost (printV l) W e w' → e = .returned (.tuple #[.string s, .int .i64 0]) ∧ Only [] W w' from fun h => ⟨by rw [mk_back hb.2]; exact h.1, h.2⟩)
  have HT := hide htab
  have HC := hide (Only.refl [] w)
  unfold BytsPost at HRA
  unfold RRPost at HRR
  unfold RPPost at HPR
  simp only at HRA HRR HPR
  clear hsame htab hA hP
  go_enter Tryd.func3, Tryd.ntmps3
  go_upto_region 9 with (first
    | (go_at_call 5; refine (awake04 _ HT.out).mono ?_; rintro e w1 ⟨rfl, ho⟩; have HC := hide (HC.out.trans ho); have HT := hide (HT.out.only ho (by simp)); clear ho)
    | (go_at_call 6; with_reducible refine (HRA.out _).mono ?_; rintro e w2 ⟨v, rfl, ho, hr⟩; have HV := hide (hr [] (by simp)); obtain ⟨A, cap, rfl, _, _⟩ := HV.out.formb; have HC := hide (HC.out.trans ho); have HT := hide (HT.out.only ho (by simp)); clear ho hr)
    | (go_at_call 7; with_reducible refine (HRR.out _).mono ?_; rintro e w3 ⟨v3, rfl, ho, hr3⟩; have HV3 := hide (hr3 [] (by simp)); obtain ⟨A3, c3, rfl, _, _⟩ := HV3.out.formb; have HC := hide (HC.out.trans ho); have HT := hide (HT.out.only ho (by simp)); have HV := hide (HV.out.only ho (by simp)); clear ho hr3)
    | (go_at_call 8; with_reducible refine (HPA.out _).mono ?_; rintro e w4 ⟨A4, c4, rfl, hr, ho⟩; have ho := ho.alloc (.cells #[.slice A4 0 c4, .int .i64 0] 30); have HU := hide (hr.only ((Only.refl [] w4).alloc (.cells #[.slice A4 0 c4, .int .i64 0] 30)) (by simp)); have HP2 := hide (Blk.new w4 30 #[.slice A4 0 c4, .int .i64 0]); have HC := hide (HC.out.trans ho); have HT := hide (HT.out.only ho (by simp)); have HV := hide (HV.out.only ho (by simp)); have HV3 := hide (HV3.out.only ho (by simp)); clear ho hr)
    | (go_at_call 9; with_reducible refine (HPR.out _).mono ?_; rintro e w5 ⟨rfl, ho⟩; have HQ := hide (Blk.new w5 30 #[.slice none 0 0, .int .i64 0]); have ho := ho.alloc (.cells #[.slice none 0 0, .int .i64 0] 30); have HC := hide (HC.out.trans ho); have HT := hide (HT.out.only ho (by simp)); have HV := hide (HV.out.only ho (by simp)); have HV3 := hide (HV3.out.only ho (by simp)); have HU := hide (HU.out.only ho (by simp)); have HP2 := hide (HP2.out.only ho (by simp)); clear ho))
  obtain ⟨wz, hwz⟩ : ∃ wz, wz = w5.alloc (.cells #[.slice none 0 0, .int .i64 0] 30) := ⟨_, rfl⟩
  rw [← hwz] at HP2 HQ HC HT HV HU HV3 ⊢
  obtain ⟨QP, hqp⟩ : ∃ QP, QP = w4.heap.size := ⟨_, rfl⟩
  obtain ⟨QQ, hqq⟩ : ∃ QQ, QQ = w5.heap.size := ⟨_, rfl⟩
  rw [← hqp] at HP2 ⊢
  rw [← hqq] at HQ ⊢
  clear hwz hqp hqq
  have p0 := HP2.out.cell 0
  have p1 := HP2.out.cell 1
  have q0 := HQ.out.cell 0
  have q1 := HQ.out.cell 1
  simp at p0 p1 q0 q1
  go_wp2_with (first
    | (go_at_call 10; refine (same_yes _ _ l _ _ _ HV.out HV3.out).mono ?_; rintro e w6 ⟨rfl, rfl⟩)
    | (go_at_call 11; refine (refsame_yes _ _ [] [] 0 _ _ _ rfl HU.out (Rd.nil _ [])).mono ?_; rintro e w7 ⟨rfl, ho⟩; have HC := hide (HC.out.trans ho); have HT := hide (HT.out.only ho (by simp)); have HV := hide (HV.out.only ho (by simp)); have HU := hide (HU.out.only ho (by simp)); have HP2 := hide (HP2.out.only ho (by simp)); have HQ := hide (HQ.out.only ho (by simp)); have p0 := HP2.out.cell 0; have p1 := HP2.out.cell 1; have q0 := HQ.out.cell 0; have q1 := HQ.out.cell 1; simp at p0 p1 q0 q1; clear ho)
    | (go_at_call 12; refine ((Print_addr _ l _ _ HV.out H4.out HT.out).mono (HTX.out _)).mono ?_; rintro e w8 ⟨rfl, ho⟩; have HC := hide (HC.out.trans ho); have HT := hide (HT.out.only ho (by simp)); have HV := hide (HV.out.only ho (by simp)); have HU := hide (HU.out.only ho (by simp)); have HP2 := hide (HP2.out.only ho (by simp)); have HQ := hide (HQ.out.only ho (by simp)); have p0 := HP2.out.cell 0; have p1 := HP2.out.cell 1; have q0 := HQ.out.cell 0; have q1 := HQ.out.cell 1; simp at p0 p1 q0 q1; clear ho)
    | (go_at_call 13; refine (pp_no _ [] 0 _ _ HU.out plain_none).mono ?_; rintro e w9 ⟨rfl, ho⟩; have HC := hide (HC.out.trans ho); have HT := hide (HT.out.only ho (by simp)); have HV := hide (HV.out.only ho (by simp)); have HU := hide (HU.out.only ho (by simp)); have HP2 := hide (HP2.out.only ho (by simp)); have HQ := hide (HQ.out.only ho (by simp)); have p0 := HP2.out.cell 0; have p1 := HP2.out.cell 1; have q0 := HQ.out.cell 0; have q1 := HQ.out.cell 1; simp at p0 p1 q0 q1; clear ho))
  go_ret
  exact ⟨rfl, HC.out⟩
set_option maxRecDepth 100000 in
set_option maxHeartbeats 12800000 in
theorem at_ny (w : World) (s : ByteArray) (hs : s.size ≤ 200) (hA : readA s = ([], 3)) (m : List UInt8) (b : Nat) (hP : refP s = some (m, b)) (htab : Tab w) : Calls Tryd.prog 3 #[.string s] w (TrueS w) := by
  have hs2 : ¬ (200 : Int) < (s.size : Int) := by omega
  have HRA := hide (fun W => Read_addr W s (by omega))
  have HRR := hide (fun W => refRead_any W s (by omega))
  have HPA := hide (fun W => (ReadPrefix_any W s (by omega)).mono (fun e w' h => show PfxPost m b 0 W e w' from by rw [hP] at h; exact h))
  unfold PfxPost at HPA
  have HPR := hide (fun W => refReadPrefix_any W s (by omega))
  have hsame := read_same s
  rw [hA] at HRA hsame
  rw [hP] at HPR
  rw [if_neg (show ¬ (3 : Nat) = 0 by decide)] at hsame
  rw [hsame] at HRR
  have hc := refP_back hP
  have HPL := hide hc.1
  have HSP := hide (mk_back hc.2)
  have HTP := hide (fun W e (w' : World) => show TxtPost (printV m ++ ([47] ++ Lib.decDigits b)) W e w' → e = .returned (.tuple #[.string s, .int .i64 0]) ∧ Only [] W w' from fun h => ⟨by rw [mk_back hc.2]; exact h.1, h.2⟩)
  have HT := hide htab
  have HC := hide (Only.refl [] w)
  unfold BytsPost at HRA
  unfold RRPost at HRR
  unfold RPPost at HPR
  simp only at HRA HRR HPR
  clear hsame htab hA hP
  go_enter Tryd.func3, Tryd.ntmps3
  go_upto_region 9 with (first
    | (go_at_call 5; refine (awake04 _ HT.out).mono ?_; rintro e w1 ⟨rfl, ho⟩; have HC := hide (HC.out.trans ho); have HT := hide (HT.out.only ho (by simp)); clear ho)
    | (go_at_call 6; with_reducible refine (HRA.out _).mono ?_; rintro e w2 ⟨v, rfl, ho, hr⟩; have HV := hide (hr [] (by simp)); obtain ⟨A, cap, rfl, _, _⟩ := HV.out.formb; have HC := hide (HC.out.trans ho); have HT := hide (HT.out.only ho (by simp)); clear ho hr)
    | (go_at_call 7; with_reducible refine (HRR.out _).mono ?_; rintro e w3 ⟨rfl, ho⟩; have HC := hide (HC.out.trans ho); have HT := hide (HT.out.only ho (by simp)); have HV := hide (HV.out.only ho (by simp)); clear ho)
    | (go_at_call 8; with_reducible refine (HPA.out _).mono ?_; rintro e w4 ⟨v4, rfl, hr, ho⟩; obtain ⟨A4, c4, rfl, _, _⟩ := hr.formb; have ho := ho.alloc (.cells #[.slice A4 (List.length m) c4, .int .i64 b] 30); have HU := hide (hr.only ((Only.refl [] w4).alloc (.cells #[.slice A4 (List.length m) c4, .int .i64 b] 30)) (by simp)); have HP2 := hide (Blk.new w4 30 #[.slice A4 (List.length m) c4, .int .i64 b]); have HC := hide (HC.out.trans ho); have HT := hide (HT.out.only ho (by simp)); have HV := hide (HV.out.only ho (by simp)); clear ho hr)
    | (go_at_call 9; with_reducible refine (HPR.out _).mono ?_; rintro e w5 ⟨v5, rfl, hr5, ho⟩; obtain ⟨A5, c5, rfl, _, _⟩ := hr5.formb; have HU5 := hide (hr5.only ((Only.refl [] w5).alloc (.cells #[.slice A5 m.length c5, .int .i64 b] 30)) (by simp)); have HQ := hide (Blk.new w5 30 #[.slice A5 m.length c5, .int .i64 b]); have ho := ho.alloc (.cells #[.slice A5 m.length c5, .int .i64 b] 30); have HC := hide (HC.out.trans ho); have HT := hide (HT.out.only ho (by simp)); have HV := hide (HV.out.only ho (by simp)); have HU := hide (HU.out.only ho (by simp)); have HP2 := hide (HP2.out.only ho (by simp)); clear ho; clear hr5))
  obtain ⟨wz, hwz⟩ : ∃ wz, wz = w5.alloc (.cells #[.slice A5 m.length c5, .int .i64 b] 30) := ⟨_, rfl⟩
  rw [← hwz] at HP2 HQ HC HT HV HU HU5 ⊢
  obtain ⟨QP, hqp⟩ : ∃ QP, QP = w4.heap.size := ⟨_, rfl⟩
  obtain ⟨QQ, hqq⟩ : ∃ QQ, QQ = w5.heap.size := ⟨_, rfl⟩
  rw [← hqp] at HP2 ⊢
  rw [← hqq] at HQ ⊢
  clear hwz hqp hqq
  have p0 := HP2.out.cell 0
  have p1 := HP2.out.cell 1
  have q0 := HQ.out.cell 0
  have q1 := HQ.out.cell 1
  simp at p0 p1 q0 q1
  go_wp2_with (first
    | (go_at_call 10; refine (same_yes _ _ [] _ _ _ HV.out (Rd.nil _ [])).mono ?_; rintro e w6 ⟨rfl, rfl⟩)
    | (go_at_call 11; refine (refsame_yes _ _ m m (b : Int) _ _ _ rfl HU.out HU5.out).mono ?_; rintro e w7 ⟨rfl, ho⟩; have HC := hide (HC.out.trans ho); have HT := hide (HT.out.only ho (by simp)); have HV := hide (HV.out.only ho (by simp)); have HU := hide (HU.out.only ho (by simp)); have HP2 := hide (HP2.out.only ho (by simp)); have HQ := hide (HQ.out.only ho (by simp)); have p0 := HP2.out.cell 0; have p1 := HP2.out.cell 1; have q0 := HQ.out.cell 0; have q1 := HQ.out.cell 1; simp at p0 p1 q0 q1; clear ho)
    | (go_at_call 12; refine (print_bad _ [] _ _ HV.out (by decide) (by decide)).mono ?_; rintro e w8 ⟨rfl, ho⟩; have HC := hide (HC.out.trans ho); have HT := hide (HT.out.only ho (by simp)); have HV := hide (HV.out.only ho (by simp)); have HU := hide (HU.out.only ho (by simp)); have HP2 := hide (HP2.out.only ho (by simp)); have HQ := hide (HQ.out.only ho (by simp)); have p0 := HP2.out.cell 0; have p1 := HP2.out.cell 1; have q0 := HQ.out.cell 0; have q1 := HQ.out.cell 1; simp at p0 p1 q0 q1; clear ho)
    | (go_at_call 13; refine ((pp_yes _ m b _ _ HU.out HPL.out HT.out).mono (HTP.out _)).mono ?_; rintro e w9 ⟨rfl, ho⟩; have HC := hide (HC.out.trans ho); have HT := hide (HT.out.only ho (by simp)); have HV := hide (HV.out.only ho (by simp)); have HU := hide (HU.out.only ho (by simp)); have HP2 := hide (HP2.out.only ho (by simp)); have HQ := hide (HQ.out.only ho (by simp)); have p0 := HP2.out.cell 0; have p1 := HP2.out.cell 1; have q0 := HQ.out.cell 0; have q1 := HQ.out.cell 1; simp at p0 p1 q0 q1; clear ho))
  go_ret
  exact ⟨rfl, HC.out⟩
set_option maxRecDepth 100000 in
set_option maxHeartbeats 12800000 in
theorem at_nn (w : World) (s : ByteArray) (hs : s.size ≤ 200) (hA : readA s = ([], 3)) (hP : refP s = none) (htab : Tab w) : Calls Tryd.prog 3 #[.string s] w (TrueS w) := by
  have hs2 : ¬ (200 : Int) < (s.size : Int) := by omega
  have HRA := hide (fun W => Read_addr W s (by omega))
  have HRR := hide (fun W => refRead_any W s (by omega))
  have HPA := hide (fun W => (ReadPrefix_any W s (by omega)).mono (fun e w' h => pfx_none (w := W) (by rw [hP] at h; exact h)))
  have HPR := hide (fun W => refReadPrefix_any W s (by omega))
  have hsame := read_same s
  rw [hA] at HRA hsame
  rw [hP] at HPR
  rw [if_neg (show ¬ (3 : Nat) = 0 by decide)] at hsame
  rw [hsame] at HRR
  have HT := hide htab
  have HC := hide (Only.refl [] w)
  unfold BytsPost at HRA
  unfold RRPost at HRR
  unfold RPPost at HPR
  simp only at HRA HRR HPR
  clear hsame htab hA hP
  go_enter Tryd.func3, Tryd.ntmps3
  go_upto_region 9 with (first
    | (go_at_call 5; refine (awake04 _ HT.out).mono ?_; rintro e w1 ⟨rfl, ho⟩; have HC := hide (HC.out.trans ho); have HT := hide (HT.out.only ho (by simp)); clear ho)
    | (go_at_call 6; with_reducible refine (HRA.out _).mono ?_; rintro e w2 ⟨v, rfl, ho, hr⟩; have HV := hide (hr [] (by simp)); obtain ⟨A, cap, rfl, _, _⟩ := HV.out.formb; have HC := hide (HC.out.trans ho); have HT := hide (HT.out.only ho (by simp)); clear ho hr)
    | (go_at_call 7; with_reducible refine (HRR.out _).mono ?_; rintro e w3 ⟨rfl, ho⟩; have HC := hide (HC.out.trans ho); have HT := hide (HT.out.only ho (by simp)); have HV := hide (HV.out.only ho (by simp)); clear ho)
    | (go_at_call 8; with_reducible refine (HPA.out _).mono ?_; rintro e w4 ⟨A4, c4, rfl, hr, ho⟩; have ho := ho.alloc (.cells #[.slice A4 0 c4, .int .i64 0] 30); have HU := hide (hr.only ((Only.refl [] w4).alloc (.cells #[.slice A4 0 c4, .int .i64 0] 30)) (by simp)); have HP2 := hide (Blk.new w4 30 #[.slice A4 0 c4, .int .i64 0]); have HC := hide (HC.out.trans ho); have HT := hide (HT.out.only ho (by simp)); have HV := hide (HV.out.only ho (by simp)); clear ho hr)
    | (go_at_call 9; with_reducible refine (HPR.out _).mono ?_; rintro e w5 ⟨rfl, ho⟩; have HQ := hide (Blk.new w5 30 #[.slice none 0 0, .int .i64 0]); have ho := ho.alloc (.cells #[.slice none 0 0, .int .i64 0] 30); have HC := hide (HC.out.trans ho); have HT := hide (HT.out.only ho (by simp)); have HV := hide (HV.out.only ho (by simp)); have HU := hide (HU.out.only ho (by simp)); have HP2 := hide (HP2.out.only ho (by simp)); clear ho))
  obtain ⟨wz, hwz⟩ : ∃ wz, wz = w5.alloc (.cells #[.slice none 0 0, .int .i64 0] 30) := ⟨_, rfl⟩
  rw [← hwz] at HP2 HQ HC HT HV HU ⊢
  obtain ⟨QP, hqp⟩ : ∃ QP, QP = w4.heap.size := ⟨_, rfl⟩
  obtain ⟨QQ, hqq⟩ : ∃ QQ, QQ = w5.heap.size := ⟨_, rfl⟩
  rw [← hqp] at HP2 ⊢
  rw [← hqq] at HQ ⊢
  clear hwz hqp hqq
  have p0 := HP2.out.cell 0
  have p1 := HP2.out.cell 1
  have q0 := HQ.out.cell 0
  have q1 := HQ.out.cell 1
  simp at p0 p1 q0 q1
  go_wp2_with (first
    | (go_at_call 10; refine (same_yes _ _ [] _ _ _ HV.out (Rd.nil _ [])).mono ?_; rintro e w6 ⟨rfl, rfl⟩)
    | (go_at_call 11; refine (refsame_yes _ _ [] [] 0 _ _ _ rfl HU.out (Rd.nil _ [])).mono ?_; rintro e w7 ⟨rfl, ho⟩; have HC := hide (HC.out.trans ho); have HT := hide (HT.out.only ho (by simp)); have HV := hide (HV.out.only ho (by simp)); have HU := hide (HU.out.only ho (by simp)); have HP2 := hide (HP2.out.only ho (by simp)); have HQ := hide (HQ.out.only ho (by simp)); have p0 := HP2.out.cell 0; have p1 := HP2.out.cell 1; have q0 := HQ.out.cell 0; have q1 := HQ.out.cell 1; simp at p0 p1 q0 q1; clear ho)
    | (go_at_call 12; refine (print_bad _ [] _ _ HV.out (by decide) (by decide)).mono ?_; rintro e w8 ⟨rfl, ho⟩; have HC := hide (HC.out.trans ho); have HT := hide (HT.out.only ho (by simp)); have HV := hide (HV.out.only ho (by simp)); have HU := hide (HU.out.only ho (by simp)); have HP2 := hide (HP2.out.only ho (by simp)); have HQ := hide (HQ.out.only ho (by simp)); have p0 := HP2.out.cell 0; have p1 := HP2.out.cell 1; have q0 := HQ.out.cell 0; have q1 := HQ.out.cell 1; simp at p0 p1 q0 q1; clear ho)
    | (go_at_call 13; refine (pp_no _ [] 0 _ _ HU.out plain_none).mono ?_; rintro e w9 ⟨rfl, ho⟩; have HC := hide (HC.out.trans ho); have HT := hide (HT.out.only ho (by simp)); have HV := hide (HV.out.only ho (by simp)); have HU := hide (HU.out.only ho (by simp)); have HP2 := hide (HP2.out.only ho (by simp)); have HQ := hide (HQ.out.only ho (by simp)); have p0 := HP2.out.cell 0; have p1 := HP2.out.cell 1; have q0 := HQ.out.cell 0; have q1 := HQ.out.cell 1; simp at p0 p1 q0 q1; clear ho))
  go_ret
  exact ⟨rfl, HC.out⟩
end
end Go.Proofs.YthecnaclfhfilaaDoor

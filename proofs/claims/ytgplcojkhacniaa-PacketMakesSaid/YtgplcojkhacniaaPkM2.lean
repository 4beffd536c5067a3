/-
  Contracts of packet's Make where it is too long, and of the reference's Make, by walking.
-/
import Derived.Test.YtgplcojkhacniaaPkM
namespace Go.Proofs.Ytgplcojkhacniaa
open Go.RowKit Go.Deep

set_option maxRecDepth 100000 in
theorem make_long4 (w : World) (v1 v2 v3 : Value) (N1 N2 N3 : List Nat) (s d x : List UInt8) (h1 : Rd w N1 v1 (ints .u8 (byts s))) (h2 : Rd w N2 v2 (ints .u8 (byts d))) (h3 : Rd w N3 v3 (ints .u8 (byts x)))
    (hs : s.length = 4) (hd : d.length = 4) (hx : 2000 < 20 + x.length) : Calls Try.prog 12 #[v1, v2, v3] w (MkPost (mkV s d x) w) := by
  have HV := hide (show mkV s d x = ([], 5) by unfold mkV; rw [if_neg (by omega), if_pos hs, if_pos hx])
  obtain ⟨A1, c1, rfl, hc1, hm1⟩ := h1.formb
  obtain ⟨A2, c2, rfl, hc2, hm2⟩ := h2.formb
  obtain ⟨A3, c3, rfl, hc3, hm3⟩ := h3.formb
  unfold maxLen at hm1 hm2 hm3
  generalize mkV s d x = V at *
  rw [hs] at hc1 ⊢
  rw [hd] at hc2 ⊢
  clear h1 h2 h3 hs hd
  generalize x.length = n at *
  have hx' : (1980 : Int) < n := by omega
  go_enter Try.func12, Try.ntmps12
  go_wp2_with fail
  go_ret2
  exact mkpost_bad HV.out (by repeat (first | exact Only.refl _ _ | refine Only.drew ?_ | refine Only.drewN ?_ _ | refine Only.setCell ?_ (.inr (by simp)) _ | refine Only.alloc ?_ _))

set_option maxRecDepth 100000 in
theorem refmake_long4 (w : World) (v1 v2 v3 : Value) (N1 N2 N3 : List Nat) (s d x : List UInt8) (h1 : Rd w N1 v1 (ints .u8 (byts s))) (h2 : Rd w N2 v2 (ints .u8 (byts d))) (h3 : Rd w N3 v3 (ints .u8 (byts x)))
    (hs : s.length = 4) (hd : d.length = 4) (hx : 2000 < 20 + x.length) (h3000 : x.length ≤ 3000) : Calls Try.prog 13 #[v1, v2, v3] w (MkPost (mkV s d x) w) := by
  have HV := hide (show mkV s d x = ([], 5) by unfold mkV; rw [if_neg (by omega), if_pos hs, if_pos hx])
  obtain ⟨A1, c1, rfl, hc1, hm1⟩ := h1.formb
  obtain ⟨A2, c2, rfl, hc2, hm2⟩ := h2.formb
  obtain ⟨A3, c3, rfl, hc3, hm3⟩ := h3.formb
  unfold maxLen at hm1 hm2 hm3
  generalize mkV s d x = V at *
  rw [hs] at hc1 ⊢
  rw [hd] at hc2 ⊢
  clear h1 h2 h3 hs hd
  generalize x.length = n at *
  have hx' : (1980 : Int) < n := by omega
  go_enter Try.func13, Try.ntmps13
  go_wp2_with fail
  go_ret2
  exact mkpost_bad HV.out (by repeat (first | exact Only.refl _ _ | refine Only.drew ?_ | refine Only.drewN ?_ _ | refine Only.setCell ?_ (.inr (by simp)) _ | refine Only.alloc ?_ _))

set_option maxRecDepth 100000 in
theorem make_long16 (w : World) (v1 v2 v3 : Value) (N1 N2 N3 : List Nat) (s d x : List UInt8) (h1 : Rd w N1 v1 (ints .u8 (byts s))) (h2 : Rd w N2 v2 (ints .u8 (byts d))) (h3 : Rd w N3 v3 (ints .u8 (byts x)))
    (hs : s.length = 16) (hd : d.length = 16) (hx : 2000 < 40 + x.length) : Calls Try.prog 12 #[v1, v2, v3] w (MkPost (mkV s d x) w) := by
  have HV := hide (show mkV s d x = ([], 5) by unfold mkV; rw [if_neg (by omega), if_neg (by omega), if_pos hx])
  obtain ⟨A1, c1, rfl, hc1, hm1⟩ := h1.formb
  obtain ⟨A2, c2, rfl, hc2, hm2⟩ := h2.formb
  obtain ⟨A3, c3, rfl, hc3, hm3⟩ := h3.formb
  unfold maxLen at hm1 hm2 hm3
  generalize mkV s d x = V at *
  rw [hs] at hc1 ⊢
  rw [hd] at hc2 ⊢
  clear h1 h2 h3 hs hd
  generalize x.length = n at *
  have hx' : (1960 : Int) < n := by omega
  go_enter Try.func12, Try.ntmps12
  go_wp2_with fail
  go_ret2
  exact mkpost_bad HV.out (by repeat (first | exact Only.refl _ _ | refine Only.drew ?_ | refine Only.drewN ?_ _ | refine Only.setCell ?_ (.inr (by simp)) _ | refine Only.alloc ?_ _))

set_option maxRecDepth 100000 in
theorem refmake_long16 (w : World) (v1 v2 v3 : Value) (N1 N2 N3 : List Nat) (s d x : List UInt8) (h1 : Rd w N1 v1 (ints .u8 (byts s))) (h2 : Rd w N2 v2 (ints .u8 (byts d))) (h3 : Rd w N3 v3 (ints .u8 (byts x)))
    (hs : s.length = 16) (hd : d.length = 16) (hx : 2000 < 40 + x.length) (h3000 : x.length ≤ 3000) : Calls Try.prog 13 #[v1, v2, v3] w (MkPost (mkV s d x) w) := by
  have HV := hide (show mkV s d x = ([], 5) by unfold mkV; rw [if_neg (by omega), if_neg (by omega), if_pos hx])
  obtain ⟨A1, c1, rfl, hc1, hm1⟩ := h1.formb
  obtain ⟨A2, c2, rfl, hc2, hm2⟩ := h2.formb
  obtain ⟨A3, c3, rfl, hc3, hm3⟩ := h3.formb
  unfold maxLen at hm1 hm2 hm3
  generalize mkV s d x = V at *
  rw [hs] at hc1 ⊢
  rw [hd] at hc2 ⊢
  clear h1 h2 h3 hs hd
  generalize x.length = n at *
  have hx' : (1960 : Int) < n := by omega
  go_enter Try.func13, Try.ntmps13
  go_wp2_with fail
  go_ret2
  exact mkpost_bad HV.out (by repeat (first | exact Only.refl _ _ | refine Only.drew ?_ | refine Only.drewN ?_ _ | refine Only.setCell ?_ (.inr (by simp)) _ | refine Only.alloc ?_ _))

set_option maxRecDepth 100000 in
theorem refmake_bad (w : World) (v1 v2 v3 : Value) (N1 N2 N3 : List Nat) (s d x : List UInt8) (h1 : Rd w N1 v1 (ints .u8 (byts s))) (h2 : Rd w N2 v2 (ints .u8 (byts d))) (h3 : Rd w N3 v3 (ints .u8 (byts x)))
    (hb : s.length ≠ d.length ∨ (s.length ≠ 4 ∧ s.length ≠ 16)) :
    Calls Try.prog 13 #[v1, v2, v3] w (MkPost (mkV s d x) w) := by
  have HV := hide (show mkV s d x = ([], 3) by unfold mkV; rw [if_pos hb])
  obtain ⟨A1, c1, rfl, hc1, hm1⟩ := h1.formb
  obtain ⟨A2, c2, rfl, hc2, hm2⟩ := h2.formb
  obtain ⟨A3, c3, rfl, hc3, hm3⟩ := h3.formb
  unfold maxLen at hm1 hm2 hm3
  generalize mkV s d x = V at *
  clear h1 h2 h3
  generalize s.length = n1 at *
  generalize d.length = n2 at *
  generalize x.length = n3 at *
  by_cases hne : n1 = n2
  · have g4 : ((n1 : Int) != 4) = true := by rw [bne_iff_ne]; omega
    have g16 : ((n1 : Int) != 16) = true := by rw [bne_iff_ne]; omega
    subst hne
    clear hb
    go_enter Try.func13, Try.ntmps13
    go_wp2_with fail
    go_ret2
    exact mkpost_bad HV.out (Only.refl _ _)
  · have g : ((n1 : Int) != n2) = true := by rw [bne_iff_ne]; omega
    clear hne hb
    go_enter Try.func13, Try.ntmps13
    go_wp2_with fail
    go_ret2
    exact mkpost_bad HV.out (Only.refl _ _)


set_option maxRecDepth 100000 in
set_option maxHeartbeats 1600000 in
theorem refmake_4 (w : World) (v1 v2 v3 : Value) (N1 N2 N3 : List Nat) (s d x : List UInt8) (h1 : Rd w N1 v1 (ints .u8 (byts s))) (h2 : Rd w N2 v2 (ints .u8 (byts d))) (h3 : Rd w N3 v3 (ints .u8 (byts x)))
    (hs : s.length = 4) (hd : d.length = 4) (hx : 20 + x.length ≤ 2000) : Calls Try.prog 13 #[v1, v2, v3] w (MkPost (mkV s d x) w) := by
  have HV := hide (show mkV s d x = (mk4 (20 + x.length) ++ s ++ d ++ x, 0) by unfold mkV; rw [if_neg (by omega), if_pos hs, if_neg (by omega)])
  obtain ⟨i0, hi, hz0, hz1, hz2⟩ := info_parts Try.info5
  obtain ⟨A1, c1, rfl, hc1, hm1⟩ := h1.formb
  obtain ⟨A2, c2, rfl, hc2, hm2⟩ := h2.formb
  obtain ⟨A3, c3, rfl, hc3, hm3⟩ := h3.formb
  unfold maxLen at hm1 hm2 hm3
  generalize mkV s d x = V at *
  rw [hs] at h1 hc1 ⊢
  rw [hd] at h2 hc2 ⊢
  have R1 := hide h1.reads
  have R2 := hide h2.reads
  have R3 := hide h3.reads
  have o1 := hide (ints_one .u8 (byts s))
  have o2 := hide (ints_one .u8 (byts d))
  have o3 := hide (ints_one .u8 (byts x))
  obtain ⟨n, hn⟩ : ∃ n, n = x.length := ⟨_, rfl⟩
  have HN := hide hn
  have HL := hide (show (byts s).length = 4 ∧ (byts d).length = 4 by rw [byts_length, byts_length]; exact ⟨hs, hd⟩)
  rw [← hn] at hx R3 hc3 HV ⊢
  clear h1 h2 h3 hs hd hn
  have hx' : (n : Int) ≤ 1980 := by omega
  go_enter Try.func13, Try.ntmps13
  go_upto_region 11 with (fail)
  have hcs : #[Value.int .u8 69, .int .u8 0, .int .u8 (((n : Int) + 20) / 256), .int .u8 (((n : Int) + 20) % 256), .int .u8 0, .int .u8 0, .int .u8 0, .int .u8 0, .int .u8 0, .int .u8 0, .int .u8 0, .int .u8 0] = (ints .u8 (byts (mk4 (20 + n)))).toArray := by
    have e1 := byte_of ((20 + n) / 256) (by omega)
    have e2 := byte_of ((20 + n) % 256) (by omega)
    simp only [mk4, byts, ints, List.map_cons, List.map_nil, e1, e2]
    rw [show (((20 + n) / 256 : Nat) : Int) = ((n : Int) + 20) / 256 by omega, show (((20 + n) % 256 : Nat) : Int) = ((n : Int) + 20) % 256 by omega]
    rfl
  have HO := hide (((Only.refl [] w).alloc (.cells #[.int .u8 96, .int .u8 0, .int .u8 0, .int .u8 0, .int .u8 ((n : Int) / 256), .int .u8 ((n : Int) % 256), .int .u8 0, .int .u8 0] 5)).alloc (.cells #[.int .u8 69, .int .u8 0, .int .u8 (((n : Int) + 20) / 256), .int .u8 (((n : Int) + 20) % 256), .int .u8 0, .int .u8 0, .int .u8 0, .int .u8 0, .int .u8 0, .int .u8 0, .int .u8 0, .int .u8 0] 5))
  have hbk := Blk.new (w.alloc (.cells #[.int .u8 96, .int .u8 0, .int .u8 0, .int .u8 0, .int .u8 ((n : Int) / 256), .int .u8 ((n : Int) % 256), .int .u8 0, .int .u8 0] 5)) 5 #[.int .u8 69, .int .u8 0, .int .u8 (((n : Int) + 20) / 256), .int .u8 (((n : Int) + 20) % 256), .int .u8 0, .int .u8 0, .int .u8 0, .int .u8 0, .int .u8 0, .int .u8 0, .int .u8 0, .int .u8 0]
  generalize (w.alloc (.cells #[.int .u8 96, .int .u8 0, .int .u8 0, .int .u8 0, .int .u8 ((n : Int) / 256), .int .u8 ((n : Int) % 256), .int .u8 0, .int .u8 0] 5)).alloc (.cells #[.int .u8 69, .int .u8 0, .int .u8 (((n : Int) + 20) / 256), .int .u8 (((n : Int) + 20) % 256), .int .u8 0, .int .u8 0, .int .u8 0, .int .u8 0, .int .u8 0, .int .u8 0, .int .u8 0, .int .u8 0] 5) = W at HO hbk ⊢
  rw [hcs, World.size_alloc] at hbk
  have HB := hide hbk
  clear hbk hcs
  have hown := own_of_blk (base := w.heap.size) (n := 12) (cap := 12) HB.out (by omega) (Nat.le_refl _) (by unfold maxLen; omega) rfl
  rw [List.take_of_length_le (Nat.le_refl 12)] at hown
  have HOWN := hide hown
  clear hown
  go_wp2_with (first
    | (at_builtin; refine wpList_append_any _ rfl (.tmp 50) (.tmp 51) 22 rfl w.heap.size 5 i0 (.int .u8 0) 1 1 Try.underlying22 hi hz0 hz1 hz2 rfl (by decide) _ 12 _ rfl HOWN.out w.heap.size A1 4 c1 (ints .u8 (byts s)) rfl (R1.out.only HO.out (Nat.le_refl _) (by simp)) o1.out (by unfold maxLen; omega) (by omega) HO.out.size ?_; intro va wa hown1 hg1 _; have HOWNA := hide hown1; have HOA := hide (HO.out.grown hg1 (fun j hj => .inr (own_block_ge HOWN.out hj))); clear hown1 hg1)
    | (at_builtin; refine wpList_append_any _ rfl (.tmp 52) (.tmp 53) 22 rfl w.heap.size 5 i0 (.int .u8 0) 1 1 Try.underlying22 hi hz0 hz1 hz2 rfl (by decide) _ (12 + 4) _ rfl HOWNA.out w.heap.size A2 4 c2 (ints .u8 (byts d)) rfl (R2.out.only HOA.out (Nat.le_refl _) (by simp)) o2.out (by unfold maxLen; omega) (by omega) HOA.out.size ?_; intro vb wb hown1 hg1 _; have HOWNB := hide hown1; have HOB := hide (HOA.out.grown hg1 (fun j hj => .inr (own_block_ge HOWNA.out hj))); clear hown1 hg1)
    | (at_builtin; refine wpList_append_any _ rfl (.tmp 55) (.tmp 56) 22 rfl w.heap.size 5 i0 (.int .u8 0) 1 1 Try.underlying22 hi hz0 hz1 hz2 rfl (by decide) _ (12 + 4 + 4) _ rfl HOWNB.out w.heap.size A3 n c3 (ints .u8 (byts x)) rfl (R3.out.only HOB.out (Nat.le_refl _) (by simp)) o3.out (by unfold maxLen; omega) (by omega) HOB.out.size ?_; intro vc wc hown1 hg1 _; have HOWNC := hide hown1; have HOC := hide (HOB.out.grown hg1 (fun j hj => .inr (own_block_ge HOWNB.out hj))); clear hown1 hg1))
  go_ret2
  rw [HV.out]
  refine ⟨vc, rfl, ?_, HOC.out⟩
  have h := HOWNC.out
  unfold OwnB
  rw [byts_append, byts_append, byts_append]
  have e : (byts (mk4 (20 + n)) ++ byts s ++ byts d ++ byts x).length = 12 + 4 + 4 + n := by
    rw [List.length_append, List.length_append, List.length_append, HL.out.1, HL.out.2, byts_length x, ← HN.out]
    rfl
  rw [e]
  simpa only [ints, List.map_append] using h

set_option maxRecDepth 100000 in
set_option maxHeartbeats 1600000 in
theorem refmake_16 (w : World) (v1 v2 v3 : Value) (N1 N2 N3 : List Nat) (s d x : List UInt8) (h1 : Rd w N1 v1 (ints .u8 (byts s))) (h2 : Rd w N2 v2 (ints .u8 (byts d))) (h3 : Rd w N3 v3 (ints .u8 (byts x)))
    (hs : s.length = 16) (hd : d.length = 16) (hx : 40 + x.length ≤ 2000) : Calls Try.prog 13 #[v1, v2, v3] w (MkPost (mkV s d x) w) := by
  have HV := hide (show mkV s d x = (mk6 x.length ++ s ++ d ++ x, 0) by unfold mkV; rw [if_neg (by omega), if_neg (by omega), if_neg (by omega)])
  obtain ⟨i0, hi, hz0, hz1, hz2⟩ := info_parts Try.info5
  obtain ⟨A1, c1, rfl, hc1, hm1⟩ := h1.formb
  obtain ⟨A2, c2, rfl, hc2, hm2⟩ := h2.formb
  obtain ⟨A3, c3, rfl, hc3, hm3⟩ := h3.formb
  unfold maxLen at hm1 hm2 hm3
  generalize mkV s d x = V at *
  rw [hs] at h1 hc1 ⊢
  rw [hd] at h2 hc2 ⊢
  have R1 := hide h1.reads
  have R2 := hide h2.reads
  have R3 := hide h3.reads
  have o1 := hide (ints_one .u8 (byts s))
  have o2 := hide (ints_one .u8 (byts d))
  have o3 := hide (ints_one .u8 (byts x))
  obtain ⟨n, hn⟩ : ∃ n, n = x.length := ⟨_, rfl⟩
  have HN := hide hn
  have HL := hide (show (byts s).length = 16 ∧ (byts d).length = 16 by rw [byts_length, byts_length]; exact ⟨hs, hd⟩)
  rw [← hn] at hx R3 hc3 HV ⊢
  clear h1 h2 h3 hs hd hn
  have hx' : (n : Int) ≤ 1960 := by omega
  go_enter Try.func13, Try.ntmps13
  go_upto_region 11 with (fail)
  have hcs : #[Value.int .u8 96, .int .u8 0, .int .u8 0, .int .u8 0, .int .u8 ((n : Int) / 256), .int .u8 ((n : Int) % 256), .int .u8 0, .int .u8 0] = (ints .u8 (byts (mk6 n))).toArray := by
    have e1 := byte_of (n / 256) (by omega)
    have e2 := byte_of (n % 256) (by omega)
    simp only [mk6, byts, ints, List.map_cons, List.map_nil, e1, e2]
    rw [show ((n / 256 : Nat) : Int) = (n : Int) / 256 by omega, show ((n % 256 : Nat) : Int) = (n : Int) % 256 by omega]
    rfl
  have HO := hide ((Only.refl [] w).alloc (.cells #[.int .u8 96, .int .u8 0, .int .u8 0, .int .u8 0, .int .u8 ((n : Int) / 256), .int .u8 ((n : Int) % 256), .int .u8 0, .int .u8 0] 5))
  have hbk := Blk.new w 5 #[.int .u8 96, .int .u8 0, .int .u8 0, .int .u8 0, .int .u8 ((n : Int) / 256), .int .u8 ((n : Int) % 256), .int .u8 0, .int .u8 0]
  generalize w.alloc (.cells #[.int .u8 96, .int .u8 0, .int .u8 0, .int .u8 0, .int .u8 ((n : Int) / 256), .int .u8 ((n : Int) % 256), .int .u8 0, .int .u8 0] 5) = W at HO hbk ⊢
  rw [hcs] at hbk
  have HB := hide hbk
  clear hbk hcs
  have hown := own_of_blk (base := w.heap.size) (n := 8) (cap := 8) HB.out (by omega) (Nat.le_refl _) (by unfold maxLen; omega) rfl
  rw [List.take_of_length_le (Nat.le_refl 8)] at hown
  have HOWN := hide hown
  clear hown
  go_wp2_with (first
    | (at_builtin; refine wpList_append_any _ rfl (.tmp 50) (.tmp 51) 22 rfl w.heap.size 5 i0 (.int .u8 0) 1 1 Try.underlying22 hi hz0 hz1 hz2 rfl (by decide) _ 8 _ rfl HOWN.out w.heap.size A1 16 c1 (ints .u8 (byts s)) rfl (R1.out.only HO.out (Nat.le_refl _) (by simp)) o1.out (by unfold maxLen; omega) (by omega) HO.out.size ?_; intro va wa hown1 hg1 _; have HOWNA := hide hown1; have HOA := hide (HO.out.grown hg1 (fun j hj => .inr (own_block_ge HOWN.out hj))); clear hown1 hg1)
    | (at_builtin; refine wpList_append_any _ rfl (.tmp 52) (.tmp 53) 22 rfl w.heap.size 5 i0 (.int .u8 0) 1 1 Try.underlying22 hi hz0 hz1 hz2 rfl (by decide) _ (8 + 16) _ rfl HOWNA.out w.heap.size A2 16 c2 (ints .u8 (byts d)) rfl (R2.out.only HOA.out (Nat.le_refl _) (by simp)) o2.out (by unfold maxLen; omega) (by omega) HOA.out.size ?_; intro vb wb hown1 hg1 _; have HOWNB := hide hown1; have HOB := hide (HOA.out.grown hg1 (fun j hj => .inr (own_block_ge HOWNA.out hj))); clear hown1 hg1)
    | (at_builtin; refine wpList_append_any _ rfl (.tmp 55) (.tmp 56) 22 rfl w.heap.size 5 i0 (.int .u8 0) 1 1 Try.underlying22 hi hz0 hz1 hz2 rfl (by decide) _ (8 + 16 + 16) _ rfl HOWNB.out w.heap.size A3 n c3 (ints .u8 (byts x)) rfl (R3.out.only HOB.out (Nat.le_refl _) (by simp)) o3.out (by unfold maxLen; omega) (by omega) HOB.out.size ?_; intro vc wc hown1 hg1 _; have HOWNC := hide hown1; have HOC := hide (HOB.out.grown hg1 (fun j hj => .inr (own_block_ge HOWNB.out hj))); clear hown1 hg1))
  go_ret2
  rw [HV.out]
  refine ⟨vc, rfl, ?_, HOC.out⟩
  have h := HOWNC.out
  unfold OwnB
  rw [byts_append, byts_append, byts_append]
  have e : (byts (mk6 n) ++ byts s ++ byts d ++ byts x).length = 8 + 16 + 16 + n := by
    rw [List.length_append, List.length_append, List.length_append, HL.out.1, HL.out.2, byts_length x, ← HN.out]
    rfl
  rw [e]
  simpa only [ints, List.map_append] using h
end Go.Proofs.Ytgplcojkhacniaa

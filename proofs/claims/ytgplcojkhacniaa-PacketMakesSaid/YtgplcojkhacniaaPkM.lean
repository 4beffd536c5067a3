/-
  Contract of packet's Make, by walking.
-/
import Derived.Test.YtgplcojkhacniaaCopy
import Derived.Test.YtgplcojkhacniaaPkT
namespace Go.Proofs.Ytgplcojkhacniaa
open Go.RowKit Go.Deep

def mk4 (n : Nat) : List UInt8 := [69, 0, UInt8.ofNat (n / 256), UInt8.ofNat (n % 256), 0, 0, 0, 0, 0, 0, 0, 0]
def mk6 (n : Nat) : List UInt8 := [96, 0, 0, 0, UInt8.ofNat (n / 256), UInt8.ofNat (n % 256), 0, 0]
/-- What Make tells. -/
def mkV (s d x : List UInt8) : List UInt8 × Nat :=
  if s.length ≠ d.length ∨ (s.length ≠ 4 ∧ s.length ≠ 16) then ([], 3)
  else if s.length = 4 then (if 2000 < 20 + x.length then ([], 5) else (mk4 (20 + x.length) ++ s ++ d ++ x, 0))
  else if 2000 < 40 + x.length then ([], 5) else (mk6 x.length ++ s ++ d ++ x, 0)

def MkPost (V : List UInt8 × Nat) (w : World) (e : Ending) (w' : World) : Prop :=
  ∃ v, e = .returned (.tuple #[v, .int .i64 V.2]) ∧ OwnB w' w.heap.size v (byts V.1) ∧ Only [] w w'
theorem mkpost_bad {V : List UInt8 × Nat} {w w' : World} {c : Nat} (hV : V = ([], c)) (ho : Only [] w w') : MkPost V w (.returned (.tuple #[.slice none 0 0, .int .i64 c])) w' := by
  subst hV
  exact ⟨_, rfl, OwnB.nil _ _, ho⟩

theorem byte_of (n : Nat) (h : n < 256) : ((UInt8.ofNat n).toNat : Int) = n := by
  rw [UInt8.toNat_ofNat']
  omega

set_option maxRecDepth 100000 in
theorem make_bad (w : World) (v1 v2 v3 : Value) (N1 N2 N3 : List Nat) (s d x : List UInt8) (h1 : Rd w N1 v1 (ints .u8 (byts s))) (h2 : Rd w N2 v2 (ints .u8 (byts d))) (h3 : Rd w N3 v3 (ints .u8 (byts x)))
    (hb : s.length ≠ d.length ∨ (s.length ≠ 4 ∧ s.length ≠ 16)) :
    Calls Try.prog 12 #[v1, v2, v3] w (MkPost (mkV s d x) w) := by
  have HV := hide (show mkV s d x = ([], 3) by unfold mkV; rw [if_pos hb])
  obtain ⟨A1, c1, rfl, hc1, hm1⟩ := h1.formb
  obtain ⟨A2, c2, rfl, hc2, hm2⟩ := h2.formb
  obtain ⟨A3, c3, rfl, hc3, hm3⟩ := h3.formb
  unfold maxLen at hm1 hm2 hm3
  generalize mkV s d x = V at *
  clear h1 h2 h3
  generalize s.length = n1 at *
  generalize d.length = n2 at *
  generalize x.length = n3 at *
  by_cases hne : n1 = n2
  · have g4 : ((n1 : Int) != 4) = true := by rw [bne_iff_ne]; omega
    have g16 : ((n1 : Int) != 16) = true := by rw [bne_iff_ne]; omega
    subst hne
    clear hb
    go_enter Try.func12, Try.ntmps12
    go_wp2_with fail
    go_ret2
    exact mkpost_bad HV.out (Only.refl _ _)
  · have g : ((n1 : Int) != n2) = true := by rw [bne_iff_ne]; omega
    clear hne hb
    go_enter Try.func12, Try.ntmps12
    go_wp2_with fail
    go_ret2
    exact mkpost_bad HV.out (Only.refl _ _)

/-- The cells of the beginning. -/
theorem make4_cells (n : Nat) (h : 20 + n ≤ 2000) : (((Array.replicate (20 + n) (Value.int .u8 0)).setIfInBounds 0 (Value.int .u8 69)).setIfInBounds 2 (Value.int .u8 ((20 + (n : Int)) / 256))).setIfInBounds 3 (Value.int .u8 ((20 + (n : Int)) % 256)) =
    (ints .u8 (byts (mk4 (20 + n))) ++ (List.replicate 4 (Value.int .u8 0) ++ (List.replicate 4 (Value.int .u8 0) ++ List.replicate n (Value.int .u8 0)))).toArray := by
  have e1 := byte_of ((20 + n) / 256) (by omega)
  have e2 := byte_of ((20 + n) % 256) (by omega)
  rw [← List.toArray_replicate, ← List.replicate_append_replicate]
  simp only [List.setIfInBounds_toArray]
  simp only [mk4, byts, ints, List.map_cons, List.map_nil, e1, e2]
  rw [show (((20 + n) / 256 : Nat) : Int) = (20 + (n : Int)) / 256 by omega, show (((20 + n) % 256 : Nat) : Int) = (20 + (n : Int)) % 256 by omega]
  rfl
theorem make6_cells (n : Nat) (h : 40 + n ≤ 2000) : (((Array.replicate (40 + n) (Value.int .u8 0)).setIfInBounds 0 (Value.int .u8 96)).setIfInBounds 4 (Value.int .u8 ((n : Int) / 256))).setIfInBounds 5 (Value.int .u8 ((n : Int) % 256)) =
    (ints .u8 (byts (mk6 n)) ++ (List.replicate 16 (Value.int .u8 0) ++ (List.replicate 16 (Value.int .u8 0) ++ List.replicate n (Value.int .u8 0)))).toArray := by
  have e1 := byte_of (n / 256) (by omega)
  have e2 := byte_of (n % 256) (by omega)
  rw [← List.toArray_replicate, ← List.replicate_append_replicate]
  simp only [List.setIfInBounds_toArray]
  simp only [mk6, byts, ints, List.map_cons, List.map_nil, e1, e2]
  rw [show ((n / 256 : Nat) : Int) = (n : Int) / 256 by omega, show ((n % 256 : Nat) : Int) = (n : Int) % 256 by omega]
  rfl
theorem Reads.only {S : List Nat} {w w' : World} {B size n : Nat} {A : Option Addr} {xs : List Value} (h : Reads w B size A n xs) (ho : Only S w w') (hB : B ≤ w.heap.size) (hS : ∀ x ∈ S, B ≤ x) : Reads w' B size A n xs :=
  h.keep fun p hp => cell_only ho (by omega) (fun hx => by have := hS _ hx; omega)
theorem cut_own (p m1 m2 r : List Value) (k : Nat) (h : p.length + m1.length + m2.length = k) : (p ++ (m1 ++ (m2 ++ r))).take k = p ++ (m1 ++ m2) := by
  rw [show p ++ (m1 ++ (m2 ++ r)) = (p ++ (m1 ++ m2)) ++ r by simp]
  exact List.take_left' (by simp; omega)

set_option maxRecDepth 100000 in
set_option maxHeartbeats 3200000 in
theorem make_4 (w : World) (v1 v2 v3 : Value) (N1 N2 N3 : List Nat) (s d x : List UInt8) (h1 : Rd w N1 v1 (ints .u8 (byts s))) (h2 : Rd w N2 v2 (ints .u8 (byts d))) (h3 : Rd w N3 v3 (ints .u8 (byts x)))
    (hs : s.length = 4) (hd : d.length = 4) (hx : 20 + x.length ≤ 2000) :
    Calls Try.prog 12 #[v1, v2, v3] w (MkPost (mkV s d x) w) := by
  have HV := hide (show mkV s d x = (mk4 (20 + x.length) ++ s ++ d ++ x, 0) by unfold mkV; rw [if_neg (by omega), if_pos hs, if_neg (by omega)])
  obtain ⟨i0, hi, hz0, hz1, hz2⟩ := info_parts Try.info5
  obtain ⟨A1, c1, rfl, hc1, hm1⟩ := h1.formb
  obtain ⟨A2, c2, rfl, hc2, hm2⟩ := h2.formb
  obtain ⟨A3, c3, rfl, hc3, hm3⟩ := h3.formb
  unfold maxLen at hm1 hm2 hm3
  generalize mkV s d x = V at *
  rw [hs] at h1 hc1 ⊢
  rw [hd] at h2 hc2 ⊢
  have R1 := hide h1.reads
  have R2 := hide h2.reads
  have R3 := hide h3.reads
  have o1 := hide (ints_one .u8 (byts s))
  have o2 := hide (ints_one .u8 (byts d))
  have o3 := hide (ints_one .u8 (byts x))
  have HS := hide (show (ints .u8 (byts s)).length = 4 by rw [ints_length, byts_length]; exact hs)
  have HD := hide (show (ints .u8 (byts d)).length = 4 by rw [ints_length, byts_length]; exact hd)
  obtain ⟨n, hn⟩ : ∃ n, n = x.length := ⟨_, rfl⟩
  have HN := hide hn
  rw [← hn] at hx R3 hc3 HV ⊢
  clear h1 h2 h3 hs hd hn
  have hmk : ∀ W : World, (Instr.makeSlice 22 (.int .i64 20) (.int .i64 (20 + (n : Int)))).run Try.prog W = .ok (.slice (some ⟨W.heap.size, 0, none⟩) 20 (20 + n)) (W.alloc (.cells (Array.replicate (20 + n) (.int .u8 0)) 5)) := fun W =>
    run_make_row W 22 5 i0 (.int .u8 0) Try.underlying22 hi hz0 hz1 rfl .i64 .i64 20 (20 + n) (by omega) (by rw [hz2]; omega) (by omega)
  have hx' : (n : Int) ≤ 1980 := by omega
  have HX := hide hx
  have Hbyte : (Try.prog.info? 5).map (·.size) = some 1 := by kernel_rfl
  have HBY := hide Hbyte
  clear Hbyte
  go_enter Try.func12, Try.ntmps12
  go_upto_region 10 with (fail)
  have HK := hide (Blk.new w 5 (Array.replicate (20 + n) (.int .u8 0)))
  have HO := hide ((Only.refl [] w).alloc (.cells (Array.replicate (20 + n) (.int .u8 0)) 5))
  have hsz : w.heap.size < (w.alloc (.cells (Array.replicate (20 + n) (.int .u8 0)) 5)).heap.size := HK.out.lt
  obtain ⟨g, hg⟩ : ∃ g, g = w.heap.size := ⟨_, rfl⟩
  rw [← hg] at HK hsz ⊢
  have HG := hide hg
  clear hg
  generalize (w.alloc (.cells (Array.replicate (20 + n) (.int .u8 0)) 5)) = W at *
  have z := HK.out.frozen
  have k0 : W.cell? ⟨g, 0, none⟩ = some (.int .u8 0) := by rw [HK.out.cell, rep_get _ (by omega)]
  have k2 : W.cell? ⟨g, 2, none⟩ = some (.int .u8 0) := by rw [HK.out.cell, rep_get _ (by omega)]
  have k3 : W.cell? ⟨g, 3, none⟩ = some (.int .u8 0) := by rw [HK.out.cell, rep_get _ (by omega)]
  go_upto_region 13 with (fail)
  have HB3 := hide (((HK.out.set_ 0 (.int .u8 69)).set_ 2 (.int .u8 ((20 + (n : Int)) / 256))).set_ 3 (.int .u8 ((20 + (n : Int)) % 256)))
  have HO3 := hide ((((Only.refl [g] W).setCell (p := ⟨g, 0, none⟩) (.inl (by simp)) (.int .u8 69)).setCell (p := ⟨g, 2, none⟩) (.inl (by simp)) (.int .u8 ((20 + (n : Int)) / 256))).setCell (p := ⟨g, 3, none⟩) (.inl (by simp)) (.int .u8 ((20 + (n : Int)) % 256)))
  rw [make4_cells n HX.out] at HB3
  clear z k0 k2 k3 hmk
  generalize ((W.setCell ⟨g, 0, none⟩ (.int .u8 69)).setCell ⟨g, 2, none⟩ (.int .u8 ((20 + (n : Int)) / 256))).setCell ⟨g, 3, none⟩ (.int .u8 ((20 + (n : Int)) % 256)) = W3 at HB3 HO3 ⊢
  have HL := hide (show (ints .u8 (byts (mk4 (20 + n)))).length = 12 from rfl)
  have HOA := hide (HO.out.mono (S' := [g]) (by simp) |>.trans HO3.out)
  have m1 : ¬ 20 + n = 12 := by omega
  have m2 : ¬ 20 + n ≤ 12 := by omega
  have m3 : (12 : Int) ≤ 20 + n := by omega
  have m1' : ¬ 20 + n = 16 := by omega
  have m2' : ¬ 20 + n ≤ 16 := by omega
  have m3' : (16 : Int) ≤ 20 + n := by omega
  have m4 : (20 : Int) ≤ 20 + n := by omega
  have m6 : 20 + (n : Int) ≤ 9223372036854775807 := by omega
  go_upto_region 19 with (first
    | (refine wpList_copy_blk rfl (.tmp 55) (.tmp 56) 22 22 rfl 5 Try.underlying22 HBY.out g 12 8 _ rfl 5 _ HB3.out A1 4 c1 (ints .u8 (byts s)) rfl w.heap.size (R1.out.only HOA.out (Nat.le_refl _) (by simp; have := HG.out; omega)) o1.out (by decide) (by simp only [List.length_append, List.length_replicate, HL.out]; omega) ?_; intro W4 HB4 HO4; rw [splice_mid _ _ _ _ _ HL.out (by rw [HS.out]; rfl)] at HB4; have HOB := hide (HOA.out.trans HO4.out))
    | (refine wpList_copy_blk rfl (.tmp 59) (.tmp 60) 22 22 rfl 5 Try.underlying22 HBY.out g 16 4 _ rfl 5 _ HB4.out A2 4 c2 (ints .u8 (byts d)) rfl w.heap.size (R2.out.only HOB.out (Nat.le_refl _) (by simp; have := HG.out; omega)) o2.out (by decide) (by simp only [List.length_append, List.length_replicate, HL.out, HS.out]; omega) ?_; intro W5 HB5 HO5; rw [← List.append_assoc, splice_mid _ _ _ _ _ (by rw [List.length_append, HL.out, HS.out]) (by rw [HD.out]; rfl), List.append_assoc] at HB5; have HOC := hide (HOB.out.trans HO5.out)))
  have hown := own_of_blk (base := w.heap.size) (n := 20) (cap := 20 + n) HB5.out (by have := HG.out; omega) (by omega) (by unfold maxLen; omega) (by simp only [List.length_append, List.length_replicate, HL.out, HS.out, HD.out]; omega)
  rw [cut_own _ _ _ _ _ (by rw [HL.out, HS.out, HD.out])] at hown
  have HOWN := hide hown
  clear hown
  go_wp2_with (at_builtin; refine wpList_append_any _ rfl (.tmp 83) (.tmp 84) 22 rfl w.heap.size 5 i0 (.int .u8 0) 1 1 Try.underlying22 hi hz0 hz1 hz2 rfl (by decide) _ 20 _ rfl HOWN.out w.heap.size A3 n c3 (ints .u8 (byts x)) rfl (R3.out.only HOC.out (Nat.le_refl _) (by simp; have := HG.out; omega)) o3.out (by unfold maxLen; omega) (by omega) (by have := HOC.out.size; omega) ?_; intro v1 w1 hown1 hg1 _; have HOWN1 := hide hown1; have HO1 := hide (HOC.out.grown hg1 (fun j hj => .inr (own_block_ge HOWN.out hj))); clear hown1 hg1)
  go_ret2
  rw [HV.out]
  refine ⟨v1, rfl, ?_, HO1.out.mono (by simp; have := HG.out; omega)⟩
  have h := HOWN1.out
  unfold OwnB
  rw [show (mk4 (20 + n) ++ s ++ d ++ x) = mk4 (20 + n) ++ (s ++ (d ++ x)) by simp, byts_append, byts_append, byts_append]
  simp only [ints, List.map_append] at h ⊢
  have e : (byts (mk4 (20 + n)) ++ (byts s ++ (byts d ++ byts x))).length = 20 + n := by
    have h1 := HL.out
    have h2 := HS.out
    have h3 := HD.out
    simp only [ints_length] at h1 h2 h3
    rw [List.length_append, List.length_append, List.length_append, h1, h2, h3, byts_length, ← HN.out]
    omega
  rw [e]
  simpa only [List.append_assoc] using h

set_option maxRecDepth 100000 in
set_option maxHeartbeats 3200000 in
theorem make_16 (w : World) (v1 v2 v3 : Value) (N1 N2 N3 : List Nat) (s d x : List UInt8) (h1 : Rd w N1 v1 (ints .u8 (byts s))) (h2 : Rd w N2 v2 (ints .u8 (byts d))) (h3 : Rd w N3 v3 (ints .u8 (byts x)))
    (hs : s.length = 16) (hd : d.length = 16) (hx : 40 + x.length ≤ 2000) :
    Calls Try.prog 12 #[v1, v2, v3] w (MkPost (mkV s d x) w) := by
  have HV := hide (show mkV s d x = (mk6 x.length ++ s ++ d ++ x, 0) by unfold mkV; rw [if_neg (by omega), if_neg (by omega), if_neg (by omega)])
  obtain ⟨i0, hi, hz0, hz1, hz2⟩ := info_parts Try.info5
  obtain ⟨A1, c1, rfl, hc1, hm1⟩ := h1.formb
  obtain ⟨A2, c2, rfl, hc2, hm2⟩ := h2.formb
  obtain ⟨A3, c3, rfl, hc3, hm3⟩ := h3.formb
  unfold maxLen at hm1 hm2 hm3
  generalize mkV s d x = V at *
  rw [hs] at h1 hc1 ⊢
  rw [hd] at h2 hc2 ⊢
  have R1 := hide h1.reads
  have R2 := hide h2.reads
  have R3 := hide h3.reads
  have o1 := hide (ints_one .u8 (byts s))
  have o2 := hide (ints_one .u8 (byts d))
  have o3 := hide (ints_one .u8 (byts x))
  have HS := hide (show (ints .u8 (byts s)).length = 16 by rw [ints_length, byts_length]; exact hs)
  have HD := hide (show (ints .u8 (byts d)).length = 16 by rw [ints_length, byts_length]; exact hd)
  obtain ⟨n, hn⟩ : ∃ n, n = x.length := ⟨_, rfl⟩
  have HN := hide hn
  rw [← hn] at hx R3 hc3 HV ⊢
  clear h1 h2 h3 hs hd hn
  have hmk : ∀ W : World, (Instr.makeSlice 22 (.int .i64 40) (.int .i64 (40 + (n : Int)))).run Try.prog W = .ok (.slice (some ⟨W.heap.size, 0, none⟩) 40 (40 + n)) (W.alloc (.cells (Array.replicate (40 + n) (.int .u8 0)) 5)) := fun W =>
    run_make_row W 22 5 i0 (.int .u8 0) Try.underlying22 hi hz0 hz1 rfl .i64 .i64 40 (40 + n) (by omega) (by rw [hz2]; omega) (by omega)
  have hx' : (n : Int) ≤ 1960 := by omega
  have HX := hide hx
  have Hbyte : (Try.prog.info? 5).map (·.size) = some 1 := by kernel_rfl
  have HBY := hide Hbyte
  clear Hbyte
  go_enter Try.func12, Try.ntmps12
  go_upto_region 10 with (fail)
  have HK := hide (Blk.new w 5 (Array.replicate (40 + n) (.int .u8 0)))
  have HO := hide ((Only.refl [] w).alloc (.cells (Array.replicate (40 + n) (.int .u8 0)) 5))
  have hsz : w.heap.size < (w.alloc (.cells (Array.replicate (40 + n) (.int .u8 0)) 5)).heap.size := HK.out.lt
  obtain ⟨g, hg⟩ : ∃ g, g = w.heap.size := ⟨_, rfl⟩
  rw [← hg] at HK hsz ⊢
  have HG := hide hg
  clear hg
  generalize (w.alloc (.cells (Array.replicate (40 + n) (.int .u8 0)) 5)) = W at *
  have z := HK.out.frozen
  have k0 : W.cell? ⟨g, 0, none⟩ = some (.int .u8 0) := by rw [HK.out.cell, rep_get _ (by omega)]
  have k2 : W.cell? ⟨g, 4, none⟩ = some (.int .u8 0) := by rw [HK.out.cell, rep_get _ (by omega)]
  have k3 : W.cell? ⟨g, 5, none⟩ = some (.int .u8 0) := by rw [HK.out.cell, rep_get _ (by omega)]
  go_upto_region 17 with (fail)
  have HB3 := hide (((HK.out.set_ 0 (.int .u8 96)).set_ 4 (.int .u8 ((n : Int) / 256))).set_ 5 (.int .u8 ((n : Int) % 256)))
  have HO3 := hide ((((Only.refl [g] W).setCell (p := ⟨g, 0, none⟩) (.inl (by simp)) (.int .u8 96)).setCell (p := ⟨g, 4, none⟩) (.inl (by simp)) (.int .u8 ((n : Int) / 256))).setCell (p := ⟨g, 5, none⟩) (.inl (by simp)) (.int .u8 ((n : Int) % 256)))
  rw [make6_cells n HX.out] at HB3
  clear z k0 k2 k3 hmk
  generalize ((W.setCell ⟨g, 0, none⟩ (.int .u8 96)).setCell ⟨g, 4, none⟩ (.int .u8 ((n : Int) / 256))).setCell ⟨g, 5, none⟩ (.int .u8 ((n : Int) % 256)) = W3 at HB3 HO3 ⊢
  have HL := hide (show (ints .u8 (byts (mk6 n))).length = 8 from rfl)
  have HOA := hide (HO.out.mono (S' := [g]) (by simp) |>.trans HO3.out)
  have m1 : ¬ 40 + n = 8 := by omega
  have m2 : ¬ 40 + n ≤ 8 := by omega
  have m3 : (8 : Int) ≤ 40 + n := by omega
  have m1' : ¬ 40 + n = 24 := by omega
  have m2' : ¬ 40 + n ≤ 24 := by omega
  have m3' : (24 : Int) ≤ 40 + n := by omega
  have m4 : (40 : Int) ≤ 40 + n := by omega
  have m6 : 40 + (n : Int) ≤ 9223372036854775807 := by omega
  go_upto_region 19 with (first
    | (refine wpList_copy_blk rfl (.tmp 76) (.tmp 77) 22 22 rfl 5 Try.underlying22 HBY.out g 8 32 _ rfl 5 _ HB3.out A1 16 c1 (ints .u8 (byts s)) rfl w.heap.size (R1.out.only HOA.out (Nat.le_refl _) (by simp; have := HG.out; omega)) o1.out (by decide) (by simp only [List.length_append, List.length_replicate, HL.out]; omega) ?_; intro W4 HB4 HO4; rw [splice_mid _ _ _ _ _ HL.out (by rw [HS.out]; rfl)] at HB4; have HOB := hide (HOA.out.trans HO4.out))
    | (refine wpList_copy_blk rfl (.tmp 80) (.tmp 81) 22 22 rfl 5 Try.underlying22 HBY.out g 24 16 _ rfl 5 _ HB4.out A2 16 c2 (ints .u8 (byts d)) rfl w.heap.size (R2.out.only HOB.out (Nat.le_refl _) (by simp; have := HG.out; omega)) o2.out (by decide) (by simp only [List.length_append, List.length_replicate, HL.out, HS.out]; omega) ?_; intro W5 HB5 HO5; rw [← List.append_assoc, splice_mid _ _ _ _ _ (by rw [List.length_append, HL.out, HS.out]) (by rw [HD.out]; rfl), List.append_assoc] at HB5; have HOC := hide (HOB.out.trans HO5.out)))
  have hown := own_of_blk (base := w.heap.size) (n := 40) (cap := 40 + n) HB5.out (by have := HG.out; omega) (by omega) (by unfold maxLen; omega) (by simp only [List.length_append, List.length_replicate, HL.out, HS.out, HD.out]; omega)
  rw [cut_own _ _ _ _ _ (by rw [HL.out, HS.out, HD.out])] at hown
  have HOWN := hide hown
  clear hown
  go_wp2_with (at_builtin; refine wpList_append_any _ rfl (.tmp 83) (.tmp 84) 22 rfl w.heap.size 5 i0 (.int .u8 0) 1 1 Try.underlying22 hi hz0 hz1 hz2 rfl (by decide) _ 40 _ rfl HOWN.out w.heap.size A3 n c3 (ints .u8 (byts x)) rfl (R3.out.only HOC.out (Nat.le_refl _) (by simp; have := HG.out; omega)) o3.out (by unfold maxLen; omega) (by omega) (by have := HOC.out.size; omega) ?_; intro v1 w1 hown1 hg1 _; have HOWN1 := hide hown1; have HO1 := hide (HOC.out.grown hg1 (fun j hj => .inr (own_block_ge HOWN.out hj))); clear hown1 hg1)
  go_ret2
  rw [HV.out]
  refine ⟨v1, rfl, ?_, HO1.out.mono (by simp; have := HG.out; omega)⟩
  have h := HOWN1.out
  unfold OwnB
  rw [show (mk6 n ++ s ++ d ++ x) = mk6 n ++ (s ++ (d ++ x)) by simp, byts_append, byts_append, byts_append]
  simp only [ints, List.map_append] at h ⊢
  have e : (byts (mk6 n) ++ (byts s ++ (byts d ++ byts x))).length = 40 + n := by
    have h1 := HL.out
    have h2 := HS.out
    have h3 := HD.out
    simp only [ints_length] at h1 h2 h3
    rw [List.length_append, List.length_append, List.length_append, h1, h2, h3, byts_length, ← HN.out]
    omega
  rw [e]
  simpa only [List.append_assoc] using h
end Go.Proofs.Ytgplcojkhacniaa

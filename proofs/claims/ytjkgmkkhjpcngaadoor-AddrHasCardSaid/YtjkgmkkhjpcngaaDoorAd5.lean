/-
  The reference's Plain of addresses: by walking.
-/
import Derived.Test.YtjkgmkkhjpcngaaDoorAd4
import Derived.Test.YtjkgmkkhjpcngaaDoorCopy
import Derived.StillTailTactics
namespace Go.Proofs.YtjkgmkkhjpcngaaDoor
open Go.RowKit Go.Deep

/-- A prefix handed back: its bytes read as l. -/
def PrefPost (l : List UInt8) (b : Int) (w : World) (e : Ending) (w' : World) : Prop := ∃ v, e = .returned (.agg #[v, .int .i64 b]) ∧ Rd w' [] v (ints .u8 (byts l)) ∧ Only [] w w'
theorem cells_set (l : List UInt8) (k : Nat) (x : Int) (y : UInt8) (h : x = y.toNat) : (ints .u8 (byts l)).toArray.setIfInBounds k (.int .u8 x) = (ints .u8 (byts (l.set k y))).toArray := by
  subst h
  simp [ints, byts, List.map_set]
theorem cells_at {l : List UInt8} {k : Nat} (h : k < l.length) : (ints .u8 (byts l)).toArray[k]? = some (.int .u8 ((l.getD k 0).toNat : Int)) := by
  rw [List.getElem?_toArray]
  exact ints_get (byts_get (getD_some h))
theorem zero_cells (n : Nat) : Array.replicate n (Value.int .u8 0) = (ints .u8 (byts (List.replicate n (0 : UInt8)))).toArray := by
  simp [ints, byts]
theorem rd_of_blk {w : World} {g e : Nat} {cs : List Value} (h : Blk w g e cs.toArray) (N : List Nat) (hN : g ∉ N) (hm : cs.length ≤ maxLen) : Rd w N (.slice (some ⟨g, 0, none⟩) cs.length cs.length) cs :=
  ⟨_, _, rfl, Nat.le_refl _, hm, .inr ⟨g, 0, rfl, hN, h.lt, fun i x hx => by rw [Nat.zero_add, h.cell]; simpa using hx⟩⟩

theorem only_fresh {w w0 wr : World} {g : Nat} (h1 : Only [] w w0) (h2 : Only [g] w0 wr) (hg : w.heap.size ≤ g) : Only [] w wr :=
  ((h1.mono (S' := [g]) (fun x hx => by cases hx)).trans h2).mono fun x hx => .inr (by rw [List.mem_singleton.1 hx]; exact hg)
theorem shl_bit (x r : Nat) (hx : x < 2) (hr : r < 8) : x * 2 ^ (7 - r) < 256 := by
  have : x * 2 ^ (7 - r) ≤ 1 * 2 ^ 7 := Nat.mul_le_mul (by omega) (Nat.pow_le_pow_right (by omega) (by omega))
  omega
theorem step_small {l : List UInt8} {i : Nat} (hi : i < 8 * l.length) : ((plainV l i).getD (i / 8) 0).toNat + bitN l i * 2 ^ (7 - i % 8) < 256 := by
  rw [plain_nat (by omega)]
  have := mask_step (l.getD (i / 8) 0).toNat (i % 8) (UInt8.toNat_lt _) (by omega)
  have h2 := and_mk_lt (l.getD (i / 8) 0).toNat (i / 8) (i + 1) (UInt8.toNat_lt _)
  unfold maskN at h2 ⊢
  unfold bitN
  rw [show min 8 (i + 1 - 8 * (i / 8)) = i % 8 + 1 by omega] at h2
  rw [show min 8 (i - 8 * (i / 8)) = i % 8 by omega]
  omega
theorem plain_step2 {l : List UInt8} {i x : Nat} (hi : i < 8 * l.length) (hx : x = ((plainV l i).getD (i / 8) 0).toNat + bitN l i * 2 ^ (7 - i % 8)) :
    ∃ y : UInt8, y.toNat = x ∧ (plainV l i).set (i / 8) y = plainV l (i + 1) := by
  have h := step_small hi
  rw [← hx] at h
  refine ⟨UInt8.ofNat x, by rw [UInt8.toNat_ofNat']; exact Nat.mod_eq_of_lt h, ?_⟩
  rw [plain_step hi, hx]

set_option maxRecDepth 100000 in
set_option maxHeartbeats 6400000 in
theorem refplain_any (v : Value) (l : List UInt8) (b : Nat) (N : List Nat) (w : World) (hv : Rd w N v (ints .u8 (byts l))) (hb : b ≤ 8 * l.length) (hl : l.length ≤ 1000) :
    Calls Tryd.prog 26 #[.agg #[v, .int .i64 b]] w (PrefPost (plainV l b) b w) := by
  obtain ⟨A, cap, rfl, hcp, hcm⟩ := hv.formb
  obtain ⟨n, hn⟩ : ∃ n, n = l.length := ⟨_, rfl⟩
  rw [← hn] at hv hcp hb hl ⊢
  have HN := hide hn
  obtain ⟨i0, hi, hz0, hz1, hz2⟩ := info_parts (show (Tryd.prog.info? 5).map (fun i => (i.zero, i.size, i.bytes)) = some (some (.int .u8 0), 1, 1) by kernel_rfl)
  have hmk : ∀ W, (Instr.makeSlice 27 (.int .i64 (n : Int)) (.int .i64 (n : Int))).run Tryd.prog W = .ok (.slice (some ⟨W.heap.size, 0, none⟩) n n) (W.alloc (.cells (Array.replicate n (.int .u8 0)) 5)) := by
    intro W
    exact run_make_row W 27 5 i0 _ Tryd.underlying27 hi hz0 hz1 rfl .i64 .i64 n n (Nat.le_refl _) (by rw [hz2]; omega) (by omega)
  have HC0 := hide (((((Only.refl [] w).alloc (.cells #[.slice A n cap, .int .i64 b] 36)).alloc (.cells #[.slice none 0 0, .int .i64 0] 36))).alloc (.cells (Array.replicate n (.int .u8 0)) 5))
  have HBX := hide (((Blk.new w 36 #[.slice A n cap, .int .i64 b]).alloc (.cells #[.slice none 0 0, .int .i64 0] 36)).alloc (.cells (Array.replicate n (.int .u8 0)) 5))
  have HBR := hide ((Blk.new (w.alloc (.cells #[.slice A n cap, .int .i64 b] 36)) 36 #[.slice none 0 0, .int .i64 0]).alloc (.cells (Array.replicate n (.int .u8 0)) 5))
  have HBO := hide (Blk.new ((w.alloc (.cells #[.slice A n cap, .int .i64 b] 36)).alloc (.cells #[.slice none 0 0, .int .i64 0] 36)) 5 (Array.replicate n (.int .u8 0)))
  simp only [World.size_alloc] at HBR HBO
  have HV := hide (hv.less (N' := []) (fun x hx => by cases hx))
  clear hv hn
  go_enter Tryd.func26, Tryd.ntmps26
  go_wp2_with fail
  obtain ⟨w0, hw0⟩ : ∃ w0, w0 = ((w.alloc (.cells #[.slice A n cap, .int .i64 b] 36)).alloc (.cells #[.slice none 0 0, .int .i64 0] 36)).alloc (.cells (Array.replicate n (.int .u8 0)) 5) := ⟨_, rfl⟩
  rw [← hw0] at HC0 HBX HBR HBO ⊢
  obtain ⟨G, hG⟩ : ∃ G, G = w.heap.size := ⟨_, rfl⟩
  rw [← hG] at HBX HBR HBO ⊢
  have HG := hide hG
  clear hw0 hG hmk
  rw [zero_cells] at HBO
  go_loopw [4] (fun i wr => ∃ k : Nat, k ≤ b ∧ i = .int .i64 k ∧ Hid (Blk wr (G + 1 + 1) 5 (ints .u8 (byts (plainV l k))).toArray) ∧ Hid (Only [G + 1 + 1] w0 wr)) (fun i _ => b - (intOf i).toNat)
  case atStart => exact ⟨0, Nat.zero_le _, rfl, hide (by rw [plain_zero, ← HN.out]; exact HBO.out), hide (Only.refl _ w0)⟩
  case round =>
    obtain ⟨k, hk, rfl, HS, HX⟩ := hrel
    have HA := hide (only_fresh HC0.out HX.out (by rw [HG.out]; omega))
    have HBX := hide (HBX.out.only HX.out (by simp only [List.mem_singleton]; omega))
    have HBR := hide (HBR.out.only HX.out (by simp only [List.mem_singleton]; omega))
    have c0 := HBX.out.cell 0
    have c1 := HBX.out.cell 1
    simp at c0 c1
    by_cases hlt : k < b
    · have hltI : (k : Int) < b := by omega
      have hk8 : k < 8 * l.length := by rw [← HN.out]; omega
      have hkd : k / 8 < l.length := by omega
      have HK := hide ((bit_any _ l _ k wr.drew (HV.out.only HA.out.drew (by simp)) hk8 (by rw [← HN.out]; exact hl)).mono fun e w' h => (⟨h.1, h.2.symm⟩ : _ ∧ w' = wr.drew))
      have hco : wr.cell? ⟨G + 1 + 1, k / 8, none⟩ = some (.int .u8 (((plainV l k).getD (k / 8) 0).toNat : Int)) := by rw [HS.out.cell, cells_at (by rw [plain_length]; exact hkd)]
      have hfo := HS.out.frozen (k / 8)
      have hd : IntKind.i64.wrap ((k : Int) / 8) = ((k / 8 : Nat) : Int) := by rw [IntWalk.i64_in _ (by omega)]; omega
      have hmo : (k : Int).tmod 8 = ((k % 8 : Nat) : Int) := by rw [Int.tmod_eq_emod_of_nonneg (by omega)]; omega
      have hkn : k / 8 < n := by omega
      have hm8 : k % 8 < 8 := by omega
      obtain ⟨q, hq⟩ : ∃ q, q = k / 8 := ⟨_, rfl⟩
      obtain ⟨r, hr⟩ : ∃ r, r = k % 8 := ⟨_, rfl⟩
      obtain ⟨c, hc⟩ : ∃ c, c = ((plainV l k).getD (k / 8) 0).toNat := ⟨_, rfl⟩
      obtain ⟨x, hx⟩ : ∃ x, x = bitN l k := ⟨_, rfl⟩
      have hX0 := step_small hk8
      rw [← hc, ← hx, ← hr] at hX0
      rw [← hc, ← hq] at hco
      rw [← hq] at hd hkn hfo
      rw [← hr] at hmo hm8
      rw [← hx] at HK
      have HQ := hide hq
      have HR := hide hr
      have HCC := hide hc
      have HXX := hide hx
      have HX0 := hide hX0
      obtain ⟨s, hs⟩ : ∃ s, s = 7 - r := ⟨_, rfl⟩
      have hs7 : IntKind.i64.wrap (7 - (r : Int)) = (s : Int) := by rw [IntWalk.i64_in _ (by omega)]; omega
      obtain ⟨y, hy⟩ : ∃ y, y = x * 2 ^ s := ⟨_, rfl⟩
      rw [← hs, ← hy] at hX0
      have hw8 : IntKind.u8.wrap ((x : Int) * 2 ^ s) = (y : Int) := by
        rw [IntKind.wrap_u8, hy, Int.natCast_mul, Int.natCast_pow]
        have h2 : (x : Int) * 2 ^ s = ((x * 2 ^ s : Nat) : Int) := by rw [Int.natCast_mul, Int.natCast_pow]; rfl
        have h3 : ((2 : Nat) : Int) = 2 := rfl
        rw [h3, h2, ← hy]
        omega
      have hcy : (c : Int) + (y : Int) < 256 := by omega
      have hs8 : s ≤ 7 := by omega
      have HX1 := hide (show c + y = ((plainV l k).getD (k / 8) 0).toNat + bitN l k * 2 ^ (7 - k % 8) by rw [hy, hs, hr, hc, hx])
      clear hq hr hc hx hX0 HX0 hs hy
      go_wp2_with fail
      refine wp_region_still_tail 18 (by kernel_rfl) (by kernel_rfl) ?_
      simp only [List.take_succ_cons, List.take_zero, List.drop_succ_cons, List.drop_zero]
      repeat still_step
      still_call HK.out
      repeat still_step
      refine wpStill_nil ?_
      change wpList _ _ _ _ _ wr.drew
      obtain ⟨yb, hyb, hset⟩ := plain_step2 hk8 HX1.out
      have HSET := hide (cells_set (plainV l k) q ((c : Int) + (y : Int)) yb (by rw [hyb]; omega))
      rw [HQ.out, hset, ← HQ.out] at HSET
      have HS2 := hide (HSET.out ▸ (HS.out.drew.set_ q (.int .u8 ((c : Int) + (y : Int)))))
      have HX2 := hide (HX.out.drew.setCell (p := ⟨G + 1 + 1, q, none⟩) (.inl (by simp)) (.int .u8 ((c : Int) + (y : Int))))
      clear hyb hset
      go_wp2_with fail
      go_roundw
      case rel => exact ⟨k + 1, by omega, by go_num, HS2, HX2⟩
      case measure => simp [intOf]; omega
    · obtain rfl : k = b := by omega
      have hge : ¬ (k : Int) < k := by omega
      have hr0 := HBR.out.cell 0
      have hr1 := HBR.out.cell 1
      simp at hr0 hr1
      have hf0 := HBR.out.frozen 0
      have hf1 := HBR.out.frozen 1
      have HF := hide (((HBR.out.set_ 0 (.slice (some ⟨G + 1 + 1, 0, none⟩) n n)).set_ 1 (.int .i64 (k : Int))))
      have HXF := hide (((HX.out.mono (S' := [G + 1, G + 1 + 1]) (fun x hx => .inl (by simp_all))).setCell (p := ⟨G + 1, 0, none⟩) (.inl (by simp)) (.slice (some ⟨G + 1 + 1, 0, none⟩) n n)).setCell (p := ⟨G + 1, 1, none⟩) (.inl (by simp)) (.int .i64 (k : Int)))
      have HSF := hide ((HS.out.far (p := ⟨G + 1, 0, none⟩) (by simp) (.slice (some ⟨G + 1 + 1, 0, none⟩) n n)).far (p := ⟨G + 1, 1, none⟩) (by simp) (.int .i64 (k : Int)))
      go_wp2_with fail
      refine bodyPost_ret (results_cell_row rfl _ _ (G + 1) 36 _ (0, 0) _ rfl HF.out Tryd.underlying36 rfl (by kernel_rfl)) rfl ?_
      have hRD := rd_of_blk HSF.out [] (by simp) (by rw [ints_length, byts_length, plain_length, ← HN.out]; unfold maxLen; omega)
      rw [ints_length, byts_length, plain_length, ← HN.out] at hRD
      exact ⟨_, rfl, hRD, ((HC0.out.mono (S' := [G + 1, G + 1 + 1]) (fun x hx => by cases hx)).trans HXF.out).mono fun x hx => .inr (by rw [← HG.out]; simp at hx; omega)⟩
end Go.Proofs.YtjkgmkkhjpcngaaDoor

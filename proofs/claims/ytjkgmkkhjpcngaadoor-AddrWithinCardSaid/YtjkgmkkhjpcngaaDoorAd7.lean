/-
  addr.Plain of a right prefix: by walking.
-/
import Derived.Test.YtjkgmkkhjpcngaaDoorAd6
namespace Go.Proofs.YtjkgmkkhjpcngaaDoor
open Go.RowKit Go.Deep

def TupPost (l : List UInt8) (b : Int) (w : World) (e : Ending) (w' : World) : Prop := ∃ v, e = .returned (.tuple #[.agg #[v, .int .i64 b], .int .i64 0]) ∧ Rd w' [] v (ints .u8 (byts l)) ∧ Only [] w w'

set_option maxRecDepth 100000 in
set_option maxHeartbeats 6400000 in
theorem Plain_yes (v : Value) (l : List UInt8) (b : Int) (N : List Nat) (w : World) (hv : Rd w N v (ints .u8 (byts l))) (hr : rightV l b = true) :
    Calls Tryd.prog 20 #[.agg #[v, .int .i64 b]] w (TupPost (plainV l b.toNat) b w) := by
  have HO := hide (((Only.refl [] w).alloc (.cells #[v, .int .i64 b] 36)).alloc (.cells #[.slice none 0 0, .int .i64 0] 36))
  have HBX := hide ((Blk.new w 36 #[v, .int .i64 b]).alloc (.cells #[.slice none 0 0, .int .i64 0] 36))
  have HBR := hide (Blk.new (w.alloc (.cells #[v, .int .i64 b] 36)) 36 #[.slice none 0 0, .int .i64 0])
  simp only [World.size_alloc] at HBR
  have HV := hide (hv.less (N' := []) (fun x hx => by cases hx))
  obtain ⟨A, cap, rfl, hcp, hcm⟩ := hv.formb
  obtain ⟨bn, rfl, hbn, h416⟩ := right_nat2 hr
  rw [Int.toNat_natCast]
  have HRR := hide (show rightN l.length bn = true from hr)
  obtain ⟨n, hn⟩ : ∃ n, n = l.length := ⟨_, rfl⟩
  rw [← hn] at HV HBX HBR HO HRR hcp hbn h416 ⊢
  have HN := hide hn
  have hl16 : n ≤ 16 := by omega
  have hb128 : bn ≤ 128 := by omega
  clear hv hr hn h416
  obtain ⟨i0, hi, hz0, hz1, hz2⟩ := info_parts (show (Tryd.prog.info? 5).map (fun i => (i.zero, i.size, i.bytes)) = some (some (.int .u8 0), 1, 1) by kernel_rfl)
  have hmk : ∀ W, (Instr.makeSlice 27 (.int .i64 0) (.int .i64 (n : Int))).run Tryd.prog W = .ok (.slice (some ⟨W.heap.size, 0, none⟩) 0 n) (W.alloc (.cells (Array.replicate n (.int .u8 0)) 5)) := by
    intro W
    exact run_make_row W 27 5 i0 _ Tryd.underlying27 hi hz0 hz1 rfl .i64 .i64 0 n (Nat.zero_le _) (by rw [hz2]; omega) (by omega)
  go_enter Tryd.func20, Tryd.ntmps20
  go_wp2_with (go_at_call 21; refine (right_any _ _ _ _ true HRR.out _).mono ?_; rintro e w1 ⟨rfl, ho⟩; have HC := hide (HO.out.trans ho); have HBR := hide (HBR.out.only ho (by simp)); have HBX := hide (HBX.out.only ho (by simp)); have c0 := HBX.out.cell 0; have c1 := HBX.out.cell 1; have d0 := (HBX.out.alloc (.cells (Array.replicate n (.int .u8 0)) 5)).cell 0; simp at c0 c1 d0; clear ho)
  clear c0 c1 d0
  have HOW := hide (World.ownsRow_made (base := w1.heap.size) w1 (Array.replicate n (.int .u8 0)) n (Nat.le_refl _) (by unfold maxLen; omega) (e := 5) (size := 1) (by simp))
  have HX0 := hide ((Only.refl [] w1).alloc (.cells (Array.replicate n (.int .u8 0)) 5))
  have hGB : w.heap.size + 1 < w1.heap.size := HBR.out.lt
  generalize w1.alloc (.cells (Array.replicate n (.int .u8 0)) 5) = w0 at *
  obtain ⟨B, hB⟩ : ∃ B, B = w1.heap.size := ⟨_, rfl⟩
  rw [← hB] at HOW hGB ⊢
  have HB := hide hB
  obtain ⟨G, hG⟩ : ∃ G, G = w.heap.size := ⟨_, rfl⟩
  rw [← hG] at HBX HBR hGB ⊢
  have HG := hide hG
  clear hmk hB hG
  go_loopw [4, 18] (fun v i wr => ∃ k : Nat, k ≤ n ∧ i = .int .i64 k ∧ Hid (wr.ownsRow B 5 1 v k (ints .u8 (byts ((plainV l bn).take k)))) ∧ Hid (Only [] w1 wr)) (fun _ i _ => n - (intOf i).toNat)
  case atStart => exact ⟨0, Nat.zero_le _, rfl, HOW, HX0⟩
  case round =>
    obtain ⟨k, hk, rfl, how, HX⟩ := hrel
    have HBX2 := hide (HBX.out.only HX.out (by simp))
    have HBR2 := hide (HBR.out.only HX.out (by simp))
    have c0 := HBX2.out.cell 0
    have c1 := HBX2.out.cell 1
    simp at c0 c1
    obtain ⟨Av, cv, rfl, hjc, hcm⟩ := own_form how.out
    by_cases hlt : k < n
    · have hltI : (k : Int) < n := by omega
      have hg1 := getD_some (l := l) (k := k) (by rw [← HN.out]; exact hlt)
      obtain ⟨g, o, rfl, _, hg, hcell⟩ := (HV.out.only (HC.out.trans HX.out) (by simp)).at_.2.2.2 k _ (ints_get (byts_get hg1))
      have hc1 := UInt8.toNat_lt (l.getD k 0)
      have hpn := plain_nat (l := l) (b := bn) (k := k) (by rw [← HN.out]; exact hlt)
      obtain ⟨c, hcc⟩ : ∃ c, c = (l.getD k 0).toNat := ⟨_, rfl⟩
      obtain ⟨M, hMM⟩ : ∃ M, M = maskN k bn := ⟨_, rfl⟩
      rw [← hcc] at hcell hc1 hpn
      rw [← hMM] at hpn
      have hM := mask_lt k bn
      rw [← hMM] at hM
      have hand := u8_and_nat c M hc1 hM
      have HK := hide (fun W => hMM ▸ mask_any k bn W (by omega) (by omega))
      obtain ⟨z, hz⟩ : ∃ z, z = c &&& M := ⟨_, rfl⟩
      rw [← hz] at hand hpn
      have HPN := hide (take_cells (l := l) (m := plainV l bn) (k := k) (x := (z : Int)) (by rw [plain_length, ← HN.out]; exact hlt) (by rw [hpn]))
      have HSZ := hide HX.out.size
      have HOW2 := hide (World.ownsRow.alloc how.out (.cells #[.int .u8 (z : Int)] 5))
      have HX2 := hide (HX.out.alloc (.cells #[.int .u8 (z : Int)] 5))
      have HRN := hide (reads_one wr 5 (.int .u8 (z : Int)) (wr.heap.size + 1) (Nat.lt_succ_self _))
      clear hcc hMM hM hg1 hc1 hpn hz
      go_wp2_with (first
        | (go_at_call 42; refine (HK.out _).mono ?_; rintro e w1 ⟨rfl, rfl⟩)
        | (at_builtin; refine wpList_append_any _ rfl (.tmp 23) (.tmp 30) 27 rfl B 5 i0 (.int .u8 0) 1 1 Tryd.underlying27 hi hz0 hz1 hz2 rfl (by decide) _ k _ rfl HOW2.out _ _ 1 1 [.int .u8 (z : Int)] rfl HRN.out (by simp [Value.oneCell']) (by unfold maxLen; omega) (by omega) (by have := HSZ.out; rw [← HB.out] at this; simp; omega) ?_; intro v1 w3 hown1 hg1 _; rw [HPN.out] at hown1; have HOW3 := hide hown1; have HX3 := hide (HX2.out.grown hg1 (fun j hj => .inr (by have h5 := own_block_ge HOW2.out hj; rw [HB.out] at h5; exact h5))); clear hown1 hg1))
      go_roundw
      case rel => exact ⟨k + 1, by omega, by go_num, HOW3, HX3⟩
      case measure => simp [intOf]; omega
    · obtain rfl : k = n := by omega
      have hge : ¬ (k : Int) < k := by omega
      have hr0 := HBR2.out.cell 0
      have hr1 := HBR2.out.cell 1
      simp at hr0 hr1
      have hf0 := HBR2.out.frozen 0
      have hf1 := HBR2.out.frozen 1
      have HF := hide (((HBR2.out.set_ 0 (.slice Av k cv)).set_ 1 (.int .i64 (bn : Int))))
      go_wp2_with fail
      refine bodyPost_ret (results_cell_two rfl _ _ (G + 1) 36 _ (0, 0) _ rfl HF.out Tryd.underlying36 rfl (by kernel_rfl)) rfl ?_
      have hRD := (Rd.of_own (N := [G + 1]) how.out (by intro x hx; rw [List.mem_singleton.1 hx]; exact hGB)).1
      rw [List.take_of_length_le (by rw [plain_length, ← HN.out]; omega)] at hRD
      have HS2 : Only [G + 1] wr _ := (((Only.refl [G + 1] wr).setCell (p := ⟨G + 1, 0, none⟩) (.inl (by simp)) (.slice Av k cv)).setCell (p := ⟨G + 1, 1, none⟩) (.inl (by simp)) (.int .i64 (bn : Int)))
      exact ⟨_, rfl, (hRD.only HS2 (fun x hx => hx)).less (fun x hx => by cases hx), ((HC.out.trans HX.out).setCell (p := ⟨G + 1, 0, none⟩) (.inr (by rw [← HG.out]; simp)) _).setCell (p := ⟨G + 1, 1, none⟩) (.inr (by rw [← HG.out]; simp)) _⟩
end Go.Proofs.YtjkgmkkhjpcngaaDoor

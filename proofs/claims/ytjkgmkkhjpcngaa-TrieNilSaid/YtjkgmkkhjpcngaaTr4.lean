/-
  trie.Put: by walking.
-/
import Derived.Test.YtjkgmkkhjpcngaaTr3
namespace Go.Proofs.Ytjkgmkkhjpcngaa
open Go.RowKit Go.Deep

def PutPost (T : Nat) (bl : List Nat) (th : Bool → List Bool → Bool) (ow : Bool → List Bool → Int) (w : World) (e : Ending) (w' : World) : Prop :=
  e = .returned (.int .i64 0) ∧ ∃ bl' ad', TrIs w' T bl' ad' th ow ∧ Only bl w w' ∧ ∀ g ∈ bl', g ∈ bl ∨ w.heap.size ≤ g

theorem bit_bool (l : List UInt8) (k : Nat) : ∃ bb : Bool, bitN l k = bb.toNat ∧ pathR l (k + 1) = bb :: pathR l k := by
  have h := bit_lt l k
  rcases (show bitN l k = 0 ∨ bitN l k = 1 by omega) with h0 | h1
  · exact ⟨false, h0, by show (bitN l k == 1) :: pathR l k = _; rw [h0]; rfl⟩
  · exact ⟨true, h1, by show (bitN l k == 1) :: pathR l k = _; rw [h1]; rfl⟩

set_option maxRecDepth 100000 in
set_option maxHeartbeats 6400000 in
theorem put_yes (T : Nat) (v : Value) (l : List UInt8) (b : Nat) (x : Int) (bl : List Nat) (ad : Ads) (th : Bool → List Bool → Bool) (ow : Bool → List Bool → Int) (w : World) (hv : Rd w bl v (ints .u8 (byts l))) (hr : rightV l b = true) (hx : 0 ≤ x)
    (hT : TrIs w T bl ad th ow) : Calls Try.prog 10 #[.pointer (some ⟨T, 0, none⟩), .agg #[v, .int .i64 b], .int .i64 x] w
      (PutPost T bl (upd2 th (!(decide (l.length = 4))) (pathR l b) true) (upd2 ow (!(decide (l.length = 4))) (pathR l b) x) w) := by
  have HO := hide ((Only.refl [] w).alloc (.cells #[v, .int .i64 b] 29))
  have HV := hide (hv.only HO.out (by simp))
  have HBX := hide (Blk.new w 29 #[v, .int .i64 b])
  have HTR := hide (hT.only HO.out (by simp))
  have HGB := hide (show w.heap.size ∉ bl from fun h => by have := hT.lt _ h; omega)
  obtain ⟨A, cap, rfl, hcp, hcm⟩ := hv.formb
  obtain ⟨n0, h0, hbn, h416⟩ := right_nat2 hr
  obtain rfl : b = n0 := by omega
  have HRR := hide (show rightN l.length b = true from hr)
  obtain ⟨n, hn⟩ : ∃ n, n = l.length := ⟨_, rfl⟩
  rw [← hn] at HV HBX HO HTR HRR hcp hbn h416 ⊢
  have HN := hide hn
  have hl16 : n ≤ 16 := by omega
  have hb128 : b ≤ 128 := by omega
  have HBN := hide hbn
  have hxn : ¬ x < 0 := by omega
  obtain ⟨s, hs⟩ : ∃ s, s = !(decide (n = 4)) := ⟨_, rfl⟩
  rw [← hs]
  have HS := hide hs
  clear hv hr hn h416 hs hbn hT h0
  go_enter Try.func10, Try.ntmps10
  go_wp2_with (first
    | (go_at_call 38; refine (right_any _ _ _ _ true HRR.out _).mono ?_; rintro e w1 ⟨rfl, ho⟩; have HC := hide (HO.out.trans ho); have HBX := hide (HBX.out.only ho (by simp)); have HV := hide (HV.out.only ho (by simp)); have HTR := hide (HTR.out.only ho (by simp)); have c0 := HBX.out.cell 0; have c1 := HBX.out.cell 1; simp at c0 c1; clear ho)
    | (go_at_call 39; refine (root_any T n s HS.out _).mono ?_; rintro e w2 ⟨rfl, rfl⟩))
  clear c0 c1
  go_loopw [7, 27] (fun p i wr => ∃ (k g o : Nat) (bl' : List Nat) (ad' : Ads), k ≤ b ∧ i = .int .i64 k ∧ p = .pointer (some ⟨g, o, none⟩) ∧ Hid (TrIs wr T bl' ad' th ow) ∧ Hid (ad' s (pathR l k) = some (g, o)) ∧ Hid (Only bl w1 wr) ∧ Hid (∀ y ∈ bl', y ∈ bl ∨ w1.heap.size ≤ y)) (fun _ i _ => b - (intOf i).toNat)
  case atStart => exact ⟨0, T, rootOff s, bl, ad, Nat.zero_le _, rfl, rfl, HTR, hide (HTR.out.ads.root s), hide (Only.refl _ _), hide (fun y hy => .inl hy)⟩
  case round =>
    obtain ⟨k, g, o, bl', ad', hk, rfl, rfl, HT2, HA, HX, HBL⟩ := hrel
    have HBX2 := hide (HBX.out.only HX.out HGB.out)
    have c0 := HBX2.out.cell 0
    have c1 := HBX2.out.cell 1
    simp at c0 c1
    by_cases hlt : k < b
    · have hltI : (k : Int) < b := by omega
      obtain ⟨bb, hbb, hpath⟩ := bit_bool l k
      obtain ⟨q, hq⟩ : ∃ q, q = bb.toNat := ⟨_, rfl⟩
      have hq2 : q < 2 := by rw [hq]; cases bb <;> decide
      have HK := hide (fun n0 => tbit_any _ l bl k (wr.drewN n0) ((HV.out.only HX.out (fun x hx => hx)).only ((Only.refl [] wr).drewN n0) (by simp)) (by rw [← HN.out]; have := HBN.out; omega) (by rw [← HN.out]; omega))
      rw [hbb, ← hq] at HK
      obtain ⟨_, _, hkid⟩ := HT2.out.at_ HA.out
      have hkid := hkid bb
      have hfz := (HT2.out.cells s _ g o HA.out).2.2
      rw [← hq, ← Nat.add_assoc] at hkid
      have HQ := hide hq
      have HP := hide hpath
      have HG := hide (HT2.out.lt g (HT2.out.ads.mem _ _ _ _ HA.out))
      clear hq hpath hbb
      cases hc : ad' s (bb :: pathR l k) with
      | none =>
        rw [hc] at hkid
        simp only [kidV, Option.map_none] at hkid
        have hall : ∀ m : Nat, ((wr.drewN m).alloc (.cells #[.int .i64 0, .bool false, .pointer none, .pointer none] 79)).cell? ⟨g, o + 2 + q, none⟩ = some (.pointer none) := fun m =>
          (cell_only (((Only.refl [] wr).drewN m).alloc _) HG.out (by simp)).trans hkid
        have hf2 := hfz (2 + q)
        rw [← Nat.add_assoc] at hf2
        have hallf : ∀ m : Nat, ((wr.drewN m).alloc (.cells #[.int .i64 0, .bool false, .pointer none, .pointer none] 79)).frozen? ⟨g, o + 2 + q, none⟩ = false := fun m =>
          (frozen_only (((Only.refl [] wr).drewN m).alloc _) HG.out (by simp)).trans hf2
        have HGM := hide (HBL.out g (HT2.out.ads.mem _ _ _ _ HA.out))
        have HNK := hide (fun m : Nat => (HT2.out.only ((Only.refl [] wr).drewN m) (by simp)).new_kid HA.out bb hc 79)
        rw [← HQ.out, ← Nat.add_assoc] at HNK
        have HCC := hide hc
        clear hc hfz
        go_wp2_with fail
        go_quiet (exact quiet_left (HK.out _))
        go_wp2_with fail
        go_roundw
        case rel => exact ⟨k + 1, wr.heap.size, 0, wr.heap.size :: bl', upd2 ad' s (bb :: pathR l k) (some (wr.heap.size, 0)), by omega, by go_num, rfl, hide (HNK.out _), hide (by rw [HP.out, upd2_same]), hide (((HX.out.drewN _).alloc _).setCell (p := ⟨g, o + 2 + q, none⟩) HGM.out _), hide (fun y hy => by
          rcases List.mem_cons.1 hy with rfl | hy
          · exact .inr HX.out.size
          · exact HBL.out y hy)⟩
        case measure => simp [intOf]; omega
      | some p =>
        obtain ⟨g2, o2⟩ := p
        rw [hc] at hkid
        simp only [kidV, Option.map_some] at hkid
        have HCC := hide hc
        clear hc hfz
        go_wp2_with fail
        go_quiet (exact quiet_left (HK.out _))
        go_wp2_with fail
        go_roundw
        case rel => exact ⟨k + 1, g2, o2, bl', ad', by omega, by go_num, rfl, hide (HT2.out.only ((Only.refl [] wr).drewN _) (by simp)), hide (by rw [HP.out]; exact HCC.out), hide (HX.out.drewN _), HBL⟩
        case measure => simp [intOf]; omega
    · obtain rfl : k = b := by omega
      have hge : ¬ (k : Int) < k := by omega
      have hfz := (HT2.out.cells s _ g o HA.out).2.2
      have hf0 := hfz 0
      have hf1 := hfz 1
      rw [Nat.add_zero] at hf0
      obtain ⟨d0, d1, _⟩ := HT2.out.at_ HA.out
      have HGM := hide (HBL.out g (HT2.out.ads.mem _ _ _ _ HA.out))
      have HF := hide ((HT2.out.set_ow HA.out x).set_th HA.out true)
      clear hfz
      go_wp2_with fail
      go_ret
      exact ⟨rfl, bl', ad', HF.out, ((HC.out.mono (S' := bl) (fun y hy => by cases hy)).trans ((HX.out.setCell (p := ⟨g, o, none⟩) HGM.out _).setCell (p := ⟨g, o + 1, none⟩) HGM.out _)), fun y hy => (HBL.out y hy).imp id (fun h => Nat.le_trans HC.out.size h)⟩
end Go.Proofs.Ytjkgmkkhjpcngaa

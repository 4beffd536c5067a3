/-
  The law TermReads, by walking. Condition: the library's table of powers of ten reads as it was laid.
-/
import Derived.Test.YtfmfnfmhknlpbaaDoorLaQ
import Derived.Deep.RegionHeld3
namespace Go.Proofs.YtfmfnfmhknlpbaaDoor
open Go.RowKit Go.Deep

set_option maxRecDepth 100000 in
set_option maxHeartbeats 12800000 in
theorem reads_x (K : Int) (h0 : (K == 0) = false) (h2 : (K == 2) = false) (h3 : (K == 3) = false) (h4 : (K == 4) = false) (h8 : (K == 8) = false) (h10 : (K == 10) = false) (hkw : (Lit.int .i64 K).wf = true) (N : Nat) (hN : N < 18446744073709551616) (B : List UInt8) (L : List ByteArray) (hL : ∀ p ∈ L, p.size ≤ maxLen) (t : ByteArray) (ht : t.size ≤ 2000) (hw : whatV t = (K, N, B, L)) (w : World) (htab : Tab w) :
    Calls Tryd.prog 6 #[.string t] w fun e w' => e = .returned (.bool true) ∧ Only [] w w' := by
  have hs : t.size ≤ maxLen := by unfold maxLen; omega
  have hI : ¬ (2000 : Int) < t.size := by omega
  have HRD := hide (fun W => readR_what W t hs)
  have HVL := hide (fun W => Value_any W t hs)
  have HBY := hide (fun W => (Bytes_any W t hs).mono fun e w' h => show ∃ v, e = .returned (.tuple #[v, .bool (bytT t).2]) ∧ Only [] W w' ∧ Rd w' [] v (ints .u8 (byts (bytT t).1)) by obtain ⟨v, h1, h2, h3⟩ := h; exact ⟨v, h1, h2, h3 [] (by simp)⟩)
  have HPA := hide (fun W => (Parts_any W t hs).mono fun e w' h => show ∃ v, e = .returned v ∧ Only [] W w' ∧ Rd w' [] v (strs (parT t)) by obtain ⟨v, h1, h2, h3⟩ := h; exact ⟨v, h1, h2, h3 [] (by simp)⟩)
  have HKD := hide (fun W => Kind_any W t hs)
  unfold ValuePost at HVL
  unfold KindPost at HKD
  rw [what_val, hw] at HVL
  rw [what_bytes, hw] at HBY
  rw [what_parts, hw] at HPA
  rw [what_kind, hw] at HKD
  rw [hw] at HRD
  simp only at HRD HVL HBY HPA HKD
  rw [show numberedV K = false by unfold numberedV; rw [h2, h3, h8, h10]; rfl] at HVL
  rw [show decide (K = 4) = false from decide_eq_false (by simpa using h4)] at HBY
  have HMK := hide (fun W v u ht hv hu => show Calls Tryd.prog 11 #[.int .i64 K, .int .u64 N, v, u] W fun e w' => e = .returned (.string t) ∧ Only [] W w' from by
    have h := Make_any K hkw N hN v u B L hL W hv hu ht
    have h2 := what_make t (by rw [hw]; intro h; simp only at h; subst h; cases h0)
    rw [hw] at h2
    simp only at h2
    rw [h2] at h
    exact h)
  have HT := hide htab
  have htt : (t.toList == t.toList) = true := by simp
  clear htab hL hw hN ht hs hkw
  go_enter Tryd.func6, Tryd.ntmps6
  go_upto_region 9 with (first
    | (go_at_call 10; refine (awake02 _ HT.out).mono ?_; rintro e w1 ⟨rfl, ho⟩; have HC := hide ho; clear ho)
    | (go_at_call 23; refine (HRD.out _).mono ?_; rintro e w2 ⟨bv, pv, rfl, ho, hb, hp⟩; obtain ⟨A1, cap1, rfl, _, _⟩ := hb.formb; obtain ⟨A2, cap2, rfl, _, _⟩ := hp.form; replace HC := hide ((HC.out.trans ho).alloc (.cells #[.int .i64 K, .int .u64 (N : Nat), .slice A1 B.length cap1, .slice A2 (strs L).length cap2] 41)); have HNB := hide (Blk.new w2 41 #[.int .i64 K, .int .u64 (N : Nat), .slice A1 B.length cap1, .slice A2 (strs L).length cap2]); have HR1 := hide (hb.only ((Only.refl [] w2).alloc (.cells #[.int .i64 K, .int .u64 (N : Nat), .slice A1 B.length cap1, .slice A2 (strs L).length cap2] 41)) (by simp)); have HR2 := hide (hp.only ((Only.refl [] w2).alloc (.cells #[.int .i64 K, .int .u64 (N : Nat), .slice A1 B.length cap1, .slice A2 (strs L).length cap2] 41)) (by simp)); clear ho hb hp)
    | (go_at_call 26; refine (HVL.out _).mono ?_; rintro e w3 ⟨rfl, ho⟩; replace HC := hide (HC.out.trans ho); (first | (replace HNB := hide (HNB.out.only ho (by simp)); (first | (clear k0 k1 k2 k3) | skip); have k0 := HNB.out.cell 0; have k1 := HNB.out.cell 1; have k2 := HNB.out.cell 2; have k3 := HNB.out.cell 3; simp at k0 k1 k2 k3) | skip); (first | (replace HR1 := hide (HR1.out.only ho (by simp)); replace HR2 := hide (HR2.out.only ho (by simp))) | skip); (first | (replace HR3 := hide (HR3.out.only ho (by simp))) | skip); (first | (replace HR4 := hide (HR4.out.only ho (by simp))) | skip); clear ho)
    | (go_at_call 27; refine (HBY.out _).mono ?_; rintro e w4 ⟨v, rfl, ho, hb⟩; obtain ⟨A3, cap3, rfl, _, _⟩ := hb.formb; have HR3 := hide hb; replace HC := hide (HC.out.trans ho); (first | (replace HNB := hide (HNB.out.only ho (by simp)); (first | (clear k0 k1 k2 k3) | skip); have k0 := HNB.out.cell 0; have k1 := HNB.out.cell 1; have k2 := HNB.out.cell 2; have k3 := HNB.out.cell 3; simp at k0 k1 k2 k3) | skip); (first | (replace HR1 := hide (HR1.out.only ho (by simp)); replace HR2 := hide (HR2.out.only ho (by simp))) | skip); (first | (replace HR4 := hide (HR4.out.only ho (by simp))) | skip); clear ho hb)
    | (go_at_call 20; refine (HPA.out _).mono ?_; rintro e w5 ⟨v, rfl, ho, hp⟩; obtain ⟨A4, cap4, rfl, _, _⟩ := hp.form; have HR4 := hide hp; replace HC := hide (HC.out.trans ho); (first | (replace HNB := hide (HNB.out.only ho (by simp)); (first | (clear k0 k1 k2 k3) | skip); have k0 := HNB.out.cell 0; have k1 := HNB.out.cell 1; have k2 := HNB.out.cell 2; have k3 := HNB.out.cell 3; simp at k0 k1 k2 k3) | skip); (first | (replace HR1 := hide (HR1.out.only ho (by simp)); replace HR2 := hide (HR2.out.only ho (by simp))) | skip); (first | (replace HR3 := hide (HR3.out.only ho (by simp))) | skip); clear ho hp))
  generalize w2.heap.size = G at *
  clear HRD HVL HBY HPA
  go_region_held3 (fun w' => w'.cell? ⟨G, 0, none⟩ = some (.int .i64 K) ∧ w'.cell? ⟨G, 1, none⟩ = some (.int .u64 (N : Nat)) ∧ w'.cell? ⟨G, 2, none⟩ = some (.slice A1 B.length cap1) ∧ w'.cell? ⟨G, 3, none⟩ = some (.slice A2 (strs L).length cap2)) (exact ⟨k0, k1, k2, k3⟩) (first
    | (go_at_call 16; refine (HKD.out _).mono ?_; rintro e w6 ⟨rfl, ho⟩; (first | (replace ho := undrew ho) | skip); replace HC := hide (HC.out.trans ho); (first | (replace HNB := hide (HNB.out.only ho (by simp)); (first | (clear k0 k1 k2 k3) | skip); have k0 := HNB.out.cell 0; have k1 := HNB.out.cell 1; have k2 := HNB.out.cell 2; have k3 := HNB.out.cell 3; simp at k0 k1 k2 k3) | skip); (first | (replace HR1 := hide (HR1.out.only ho (by simp)); replace HR2 := hide (HR2.out.only ho (by simp))) | skip); (first | (replace HR3 := hide (HR3.out.only ho (by simp))) | skip); (first | (replace HR4 := hide (HR4.out.only ho (by simp))) | skip); clear ho)
    | (go_at_call 19; refine (same_refl _ _ L _ HR4.out HR2.out).mono ?_; rintro e w7 ⟨rfl, ho⟩; (first | (replace ho := undrew ho) | skip); replace HC := hide (HC.out.trans ho); (first | (replace HNB := hide (HNB.out.only ho (by simp)); (first | (clear k0 k1 k2 k3) | skip); have k0 := HNB.out.cell 0; have k1 := HNB.out.cell 1; have k2 := HNB.out.cell 2; have k3 := HNB.out.cell 3; simp at k0 k1 k2 k3) | skip); (first | (replace HR1 := hide (HR1.out.only ho (by simp)); replace HR2 := hide (HR2.out.only ho (by simp))) | skip); (first | (replace HR3 := hide (HR3.out.only ho (by simp))) | skip); (first | (replace HR4 := hide (HR4.out.only ho (by simp))) | skip); clear ho)
    | (go_at_call 28; refine (bytes_refl _ _ B _ HR3.out HR1.out).mono ?_; rintro e w8 ⟨rfl, ho⟩; (first | (replace ho := undrew ho) | skip); replace HC := hide (HC.out.trans ho); (first | (replace HNB := hide (HNB.out.only ho (by simp)); (first | (clear k0 k1 k2 k3) | skip); have k0 := HNB.out.cell 0; have k1 := HNB.out.cell 1; have k2 := HNB.out.cell 2; have k3 := HNB.out.cell 3; simp at k0 k1 k2 k3) | skip); (first | (replace HR1 := hide (HR1.out.only ho (by simp)); replace HR2 := hide (HR2.out.only ho (by simp))) | skip); (first | (replace HR3 := hide (HR3.out.only ho (by simp))) | skip); (first | (replace HR4 := hide (HR4.out.only ho (by simp))) | skip); clear ho))
  all_goals
    go_wp2_with (first
      | (go_at_call 11; refine (HMK.out _ _ _ (HT.out.only HC.out (by simp)) HR3.out HR4.out).mono ?_; rintro e w9 ⟨rfl, ho⟩; replace HC := hide (HC.out.trans ho); (first | (replace HNB := hide (HNB.out.only ho (by simp)); (first | (clear k0 k1 k2 k3) | skip); have k0 := HNB.out.cell 0; have k1 := HNB.out.cell 1; have k2 := HNB.out.cell 2; have k3 := HNB.out.cell 3; simp at k0 k1 k2 k3) | skip); (first | (replace HR1 := hide (HR1.out.only ho (by simp)); replace HR2 := hide (HR2.out.only ho (by simp))) | skip); (first | (replace HR3 := hide (HR3.out.only ho (by simp))) | skip); (first | (replace HR4 := hide (HR4.out.only ho (by simp))) | skip); clear ho))
    go_ret
    exact ⟨rfl, HC.out⟩

end Go.Proofs.YtfmfnfmhknlpbaaDoor

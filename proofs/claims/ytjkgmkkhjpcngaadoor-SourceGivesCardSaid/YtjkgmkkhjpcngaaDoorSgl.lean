/-
  The law SourceGives, by walking. Condition: the library's table of powers of ten reads as it was laid.
-/
import Derived.Test.YtjkgmkkhjpcngaaDoorRe
namespace Go.Proofs.YtjkgmkkhjpcngaaDoor
open Go.RowKit Go.Deep

def actC (x : Int × Int) : List Value := [.int .u8 x.1, .int .i64 x.2]
theorem act_get {l : List (Int × Int)} {i : Nat} (hi : i < l.length) : l[i]? = some (l.getD i (0, 0)) := by
  rw [List.getD, List.getElem?_eq_getElem hi]; rfl
theorem act_cell {w : World} {N : List Nat} {g o n cap : Nat} {l : List (Int × Int)} (h : RdS 2 actC w N (.slice (some ⟨g, o, none⟩) n cap) l) {i : Nat} (hi : i < l.length) :
    w.cell? ⟨g, o + i * 2, none⟩ = some (.int .u8 (l.getD i (0, 0)).1) ∧ w.cell? ⟨g, o + i * 2 + 1, none⟩ = some (.int .i64 (l.getD i (0, 0)).2) := by
  have h1 := h.cell (act_get hi) (j := 0) (u := .int .u8 (l.getD i (0, 0)).1) rfl
  have h2 := h.cell (act_get hi) (j := 1) (u := .int .i64 (l.getD i (0, 0)).2) rfl
  exact ⟨h1, by rw [Nat.add_assoc]; exact h2⟩
theorem secret_atom (B g a i m : Nat) (w : World) (ha : a < 4294967295) (hS : SrcIs w g a i m) (hg : B ≤ g) (hB : B ≤ w.heap.size) (htab : ∀ W, Below B w W → Tab W) :
    Calls Tryd.prog 30 #[.pointer (some ⟨g, 0, none⟩)] w fun e w' => e = .returned (.tuple #[.string (atomS a), .int .i64 0]) ∧ SrcIs w' g (a + 1) i m ∧ Below B w w' ∧ Only [g] w w' := secret_more B g a i m w ha hS hg hB htab
def TopN (a : Nat) : Prop := a = 4294967295
theorem secret_top (w : World) (g a i m : Nat) (h : TopN a) (hS : SrcIs w g a i m) : Calls Tryd.prog 30 #[.pointer (some ⟨g, 0, none⟩)] w fun e w' => e = .returned (.tuple #[.string ⟨#[]⟩, .int .i64 10]) ∧ w = w' := by
  unfold TopN at h; subst h; exact secret_end w g i m hS
theorem refsecret_top (w : World) (g a i m : Nat) (h : TopN a) (hS : RefIs w g a i m) : Calls Tryd.prog 31 #[.pointer (some ⟨g, 0, none⟩)] w fun e w' => e = .returned (.tuple #[.string ⟨#[]⟩, .int .i64 10]) ∧ w = w' := by
  unfold TopN at h; subst h; exact refsecret_end w g i m hS
theorem index_top (w : World) (g a i m : Nat) (h : TopN i) (hS : SrcIs w g a i m) : Calls Tryd.prog 32 #[.pointer (some ⟨g, 0, none⟩)] w fun e w' => e = .returned (.tuple #[.int .u32 0, .int .i64 10]) ∧ w = w' := by
  unfold TopN at h; subst h; exact index_end w g a m hS
theorem refnum_top (w : World) (g a i m : Nat) (h : TopN i) (hS : RefIs w g a i m) : Calls Tryd.prog 33 #[.pointer (some ⟨g, 0, none⟩)] w fun e w' => e = .returned (.tuple #[.int .u32 0, .int .i64 10]) ∧ w = w' := by
  unfold TopN at h; subst h; exact refnum_end w g a m hS
theorem sub_top (a : Nat) (h : a ≤ 4294967295) : IntKind.u32.wrap (4294967295 - (a : Int)) = ((4294967295 - a : Nat) : Int) := by rw [IntKind.wrap_u32]; omega

set_option maxRecDepth 100000 in
set_option maxHeartbeats 12800000 in
theorem sourceGives_walk (a0 i0 : Nat) (ha0 : a0 ≤ 4294967295) (hi0 : i0 ≤ 4294967295) (v : Value) (l : List (Int × Int)) (w : World) (hv : RdS 2 actC w [] v l) (hq : ∀ x ∈ l, 0 ≤ x.1 ∧ x.1 ≤ 255) (htab : Tab w) :
    Calls Tryd.prog 7 #[.int .u32 (a0 : Int), .int .u32 (i0 : Int), v] w fun e w' => e = .returned (.bool true) ∧ Only [] w w' := by
  obtain ⟨A, cap, rfl, hcap, hmx⟩ := hv.form
  have HV := hide hv
  have HT := hide htab
  obtain ⟨n, hn⟩ : ∃ n, n = l.length := ⟨_, rfl⟩
  have HN := hide hn
  rw [← hn] at hcap HV ⊢
  clear hv hn htab hq
  by_cases hlen : 100 < n
  · have hl1 : (100 : Int) < n := by omega
    clear hlen
    go_enter Tryd.func7, Tryd.ntmps7
    go_wp2_with (go_at_call 28; refine (awake14 _ HT.out).mono ?_; rintro e w1 ⟨rfl, ho⟩; have HC := hide ho; clear ho)
    go_ret
    exact ⟨rfl, HC.out⟩
  have hl1 : ¬ (100 : Int) < n := by omega
  go_enter Tryd.func7, Tryd.ntmps7
  go_wp2_with (first
    | (go_at_call 28; refine (awake14 _ HT.out).mono ?_; rintro e w1 ⟨rfl, ho⟩; have HC := hide (((ho.alloc (.cells (srcC a0 i0 0) 73)).alloc (.cells #[.int .u32 (a0 : Int), .int .u32 (i0 : Int), .int .u64 0] 50))); have HS := hide ((Blk.new w1 73 (srcC a0 i0 0)).alloc (.cells #[.int .u32 (a0 : Int), .int .u32 (i0 : Int), .int .u64 0] 50)); have HR := hide (Blk.new (w1.alloc (.cells (srcC a0 i0 0) 73)) 50 #[.int .u32 (a0 : Int), .int .u32 (i0 : Int), .int .u64 0]); rw [World.size_alloc] at HR; have HG := hide ho.size; clear ho)
    | (go_at_call 29; refine (src_new a0 i0 _).mono ?_; rintro e w2 ⟨rfl, rfl⟩))
  obtain ⟨w0, hw0⟩ : ∃ w0, w0 = (w1.alloc (.cells (srcC a0 i0 0) 73)).alloc (.cells #[.int .u32 (a0 : Int), .int .u32 (i0 : Int), .int .u64 0] 50) := ⟨_, rfl⟩
  rw [← hw0] at HC HS HR ⊢
  clear hw0
  have HG1 := HG.out
  generalize w1.heap.size = g at *
  clear HG
  have HC := hide (show Below w.heap.size w w0 from HC.out.below (fun x hx => by cases hx) (Nat.le_refl _))
  go_loopw [9, 10, 11] (fun la fi ix wr => ∃ (k a i m last : Nat) (first : Bool), k ≤ n ∧ ix = .int .i64 k ∧ la = .int .u64 last ∧ fi = .bool first ∧ a ≤ 4294967295 ∧ i ≤ 4294967295 ∧ m ≤ 1125899906842624 + k ∧ Hid (first = true ∨ last < m) ∧ Hid (SrcIs wr g a i m) ∧ Hid (RefIs wr (g + 1) a i m) ∧ Hid (Below w.heap.size w wr)) (fun _ _ ix _ => n - (intOf ix).toNat)
  case atStart => exact ⟨0, a0, i0, 0, 0, true, Nat.zero_le _, rfl, rfl, rfl, ha0, hi0, by omega, hide (.inl rfl), HS, HR, HC⟩
  case round =>
    obtain ⟨k, a, i, m, last, first, hk, rfl, rfl, rfl, ha, hi, hm, hfl, HS, HR, HC⟩ := hrel
    by_cases hlt : k < n
    · have hltI : (k : Int) < n := by omega
      have hm2 : m ≤ 2000000000000000 := by omega
      obtain ⟨gl, o, rfl, _, hgl⟩ := HV.out.addr (by rw [← HN.out]; omega)
      have HVC := hide (fun W (hb : Below w.heap.size w W) => act_cell (HV.out.only (only_of_below hb) (by simp)) (show k < l.length by rw [← HN.out]; exact hlt))
      obtain ⟨c1, c2⟩ := HVC.out _ HC.out
      generalize l.getD k (0, 0) = x at *
      obtain ⟨kd, t⟩ := x
      simp only at c1 c2
      have hta := sub_top a ha
      have hti := sub_top i hi
      by_cases k0 : kd = 0
      · subst k0
        by_cases hae : a = 4294967295
        · have HAE : TopN a := hae
          clear hae
          go_wp2_with (first
            | (go_at_call 30; refine (secret_top _ g a i m HAE HS.out).mono ?_; rintro e w2 ⟨rfl, rfl⟩)
            | (go_at_call 31; refine (refsecret_top _ (g + 1) a i m HAE HR.out).mono ?_; rintro e w2 ⟨rfl, rfl⟩)
            | (go_at_call 36; refine (left_any _ g _ _ _ (by omega) (by omega) HS.out).mono ?_; rintro e w9 ⟨rfl, ho⟩; have HR := hide (HR.out.only ho (by simp)); have HS := hide (HS.out.only ho (by simp)); have HC := hide (HC.out.trans (below_of_only ho HC.out.size)); have j0 := HR.out.cell 0; have j1 := HR.out.cell 1; simp at j0 j1; clear ho))
          go_roundw
          case rel => exact ⟨k + 1, a, i, m, last, first, by omega, by go_num, (by first | rfl | rw [hu]), rfl, by omega, by omega, by omega, hfl, HS, HR, HC⟩
          case measure => simp [intOf]; omega
        · obtain ⟨a2, ha2⟩ : ∃ a2, a2 = a + 1 := ⟨_, rfl⟩
          have hta2 := sub_top a2 (by omega)
          have HAL := hide (show a < 4294967295 by omega)
          have hab : a2 ≤ 4294967295 := by omega
          have HA2 := hide ha2
          clear hae ha2
          go_wp2_with (first
            | (go_at_call 30; refine (secret_atom w.heap.size g a i m _ HAL.out HS.out HG1 HC.out.size (fun W h => tab_below HT.out (HC.out.trans h))).mono ?_; rintro e w2 ⟨rfl, hs, hb, ho⟩; rw [← HA2.out] at hs; have HR := hide (HR.out.only ho (by simp)); have HS := hide hs; have HC := hide (HC.out.trans hb); clear hs hb ho)
            | (go_at_call 31; refine (refsecret_more w.heap.size (g + 1) a i m _ HAL.out HR.out (Nat.le_succ_of_le HG1) HC.out.size).mono ?_; rintro e w3 ⟨rfl, hs, hb, ho⟩; rw [← HA2.out] at hs; have HS := hide (HS.out.only ho (by simp)); have HR := hide hs; have HC := hide (HC.out.trans hb); clear hs hb ho)
            | (go_at_call 36; refine (left_any _ g _ _ _ (by omega) (by omega) HS.out).mono ?_; rintro e w9 ⟨rfl, ho⟩; have HR := hide (HR.out.only ho (by simp)); have HS := hide (HS.out.only ho (by simp)); have HC := hide (HC.out.trans (below_of_only ho HC.out.size)); have j0 := HR.out.cell 0; have j1 := HR.out.cell 1; simp at j0 j1; clear ho))
          go_roundw
          case rel => exact ⟨k + 1, a2, i, m, last, first, by omega, by go_num, (by first | rfl | rw [hu]), rfl, by omega, by omega, by omega, hfl, HS, HR, HC⟩
          case measure => simp [intOf]; omega
      have e0 : (kd == 0) = false := by simpa using k0
      by_cases k1 : kd = 1
      · subst k1
        by_cases hae : i = 4294967295
        · have HAE : TopN i := hae
          clear hae
          go_wp2_with (first
            | (go_at_call 32; refine (index_top _ g a i m HAE HS.out).mono ?_; rintro e w2 ⟨rfl, rfl⟩)
            | (go_at_call 33; refine (refnum_top _ (g + 1) a i m HAE HR.out).mono ?_; rintro e w2 ⟨rfl, rfl⟩)
            | (go_at_call 36; refine (left_any _ g _ _ _ (by omega) (by omega) HS.out).mono ?_; rintro e w9 ⟨rfl, ho⟩; have HR := hide (HR.out.only ho (by simp)); have HS := hide (HS.out.only ho (by simp)); have HC := hide (HC.out.trans (below_of_only ho HC.out.size)); have j0 := HR.out.cell 0; have j1 := HR.out.cell 1; simp at j0 j1; clear ho))
          go_roundw
          case rel => exact ⟨k + 1, a, i, m, last, first, by omega, by go_num, (by first | rfl | rw [hu]), rfl, by omega, by omega, by omega, hfl, HS, HR, HC⟩
          case measure => simp [intOf]; omega
        · obtain ⟨a2, ha2⟩ : ∃ a2, a2 = i + 1 := ⟨_, rfl⟩
          have hta2 := sub_top a2 (by omega)
          have HAL := hide (show i < 4294967295 by omega)
          have hab : a2 ≤ 4294967295 := by omega
          have HA2 := hide ha2
          clear hae ha2
          go_wp2_with (first
            | (go_at_call 32; refine (index_more w.heap.size g a i m _ HAL.out HS.out HG1).mono ?_; rintro e w2 ⟨rfl, hs, hb, ho⟩; rw [← HA2.out] at hs; have HR := hide (HR.out.only ho (by simp)); have HS := hide hs; have HC := hide (HC.out.trans hb); clear hs hb ho)
            | (go_at_call 33; refine (refnum_more w.heap.size (g + 1) a i m _ HAL.out HR.out (Nat.le_succ_of_le HG1)).mono ?_; rintro e w3 ⟨rfl, hs, hb, ho⟩; rw [← HA2.out] at hs; have HS := hide (HS.out.only ho (by simp)); have HR := hide hs; have HC := hide (HC.out.trans hb); clear hs hb ho)
            | (go_at_call 36; refine (left_any _ g _ _ _ (by omega) (by omega) HS.out).mono ?_; rintro e w9 ⟨rfl, ho⟩; have HR := hide (HR.out.only ho (by simp)); have HS := hide (HS.out.only ho (by simp)); have HC := hide (HC.out.trans (below_of_only ho HC.out.size)); have j0 := HR.out.cell 0; have j1 := HR.out.cell 1; simp at j0 j1; clear ho))
          go_roundw
          case rel => exact ⟨k + 1, a, a2, m, last, first, by omega, by go_num, (by first | rfl | rw [hu]), rfl, by omega, by omega, by omega, hfl, HS, HR, HC⟩
          case measure => simp [intOf]; omega
      have e1 : (kd == 1) = false := by simpa using k1
      by_cases k2 : kd = 2
      · subst k2
        by_cases hbad : t < 0 ∨ 1125899906842624 < t
        · clear k0 k1
          go_wp2_with (first
            | (go_at_call 34; refine (stamp_bad _ g a i m t hbad).mono ?_; rintro e w2 ⟨rfl, rfl⟩)
            | (go_at_call 35; refine (refstamp_bad _ (g + 1) t hbad).mono ?_; rintro e w2 ⟨rfl, rfl⟩)
            | (go_at_call 36; refine (left_any _ g _ _ _ (by omega) (by omega) HS.out).mono ?_; rintro e w9 ⟨rfl, ho⟩; have HR := hide (HR.out.only ho (by simp)); have HS := hide (HS.out.only ho (by simp)); have HC := hide (HC.out.trans (below_of_only ho HC.out.size)); have j0 := HR.out.cell 0; have j1 := HR.out.cell 1; simp at j0 j1; clear ho))
          go_roundw
          case rel => exact ⟨k + 1, a, i, m, last, first, by omega, by go_num, (by first | rfl | rw [hu]), rfl, by omega, by omega, by omega, hfl, HS, HR, HC⟩
          case measure => simp [intOf]; omega
        · obtain ⟨tn, rfl⟩ : ∃ tn : Nat, t = (tn : Int) := ⟨t.toNat, by omega⟩
          have htn : tn ≤ 1125899906842624 := by omega
          obtain ⟨u, hu⟩ : ∃ u, u = max m tn := ⟨_, rfl⟩
          obtain ⟨m2, hm2e⟩ : ∃ m2, m2 = u + 1 := ⟨_, rfl⟩
          have hub : m ≤ u ∧ u ≤ 1125899906842624 + k := by omega
          have HFL := hide (show false = true ∨ u < m2 from .inr (by omega))
          clear hbad
          cases first with
          | true =>
            go_wp2_with (first
              | (go_at_call 34; refine (stamp_ok w.heap.size g a i m tn _ htn hm2 HS.out HG1).mono ?_; rintro e w2 ⟨rfl, hs, hb, ho⟩; rw [← hu, ← hm2e] at hs; rw [← hu]; have HR := hide (HR.out.only ho (by simp)); have HS := hide hs; have HC := hide (HC.out.trans hb); obtain ⟨d1, d2⟩ := HVC.out _ HC.out; simp only at d1 d2; clear hs hb ho)
              | (go_at_call 35; refine (refstamp_ok w.heap.size (g + 1) a i m tn _ htn hm2 HR.out (Nat.le_succ_of_le HG1)).mono ?_; rintro e w3 ⟨rfl, hs, hb, ho⟩; rw [← hu, ← hm2e] at hs; rw [← hu]; have HS := hide (HS.out.only ho (by simp)); have HR := hide hs; have HC := hide (HC.out.trans hb); clear hs hb ho)
              | (go_at_call 36; refine (left_any _ g _ _ _ (by omega) (by omega) HS.out).mono ?_; rintro e w9 ⟨rfl, ho⟩; have HR := hide (HR.out.only ho (by simp)); have HS := hide (HS.out.only ho (by simp)); have HC := hide (HC.out.trans (below_of_only ho HC.out.size)); have j0 := HR.out.cell 0; have j1 := HR.out.cell 1; simp at j0 j1; clear ho))
            go_roundw
            case rel => exact ⟨k + 1, a, i, m2, u, false, by omega, by go_num, (by first | rfl | rw [hu]), rfl, by omega, by omega, by omega, HFL, HS, HR, HC⟩
            case measure => simp [intOf]; omega
          | false =>
            have hll : last < m := hfl.out.resolve_left (by simp)
            have hle : ¬ (u : Int) ≤ last := by omega
            go_wp2_with (first
              | (go_at_call 34; refine (stamp_ok w.heap.size g a i m tn _ htn hm2 HS.out HG1).mono ?_; rintro e w2 ⟨rfl, hs, hb, ho⟩; rw [← hu, ← hm2e] at hs; rw [← hu]; have HR := hide (HR.out.only ho (by simp)); have HS := hide hs; have HC := hide (HC.out.trans hb); obtain ⟨d1, d2⟩ := HVC.out _ HC.out; simp only at d1 d2; clear hs hb ho)
              | (go_at_call 35; refine (refstamp_ok w.heap.size (g + 1) a i m tn _ htn hm2 HR.out (Nat.le_succ_of_le HG1)).mono ?_; rintro e w3 ⟨rfl, hs, hb, ho⟩; rw [← hu, ← hm2e] at hs; rw [← hu]; have HS := hide (HS.out.only ho (by simp)); have HR := hide hs; have HC := hide (HC.out.trans hb); clear hs hb ho)
              | (go_at_call 36; refine (left_any _ g _ _ _ (by omega) (by omega) HS.out).mono ?_; rintro e w9 ⟨rfl, ho⟩; have HR := hide (HR.out.only ho (by simp)); have HS := hide (HS.out.only ho (by simp)); have HC := hide (HC.out.trans (below_of_only ho HC.out.size)); have j0 := HR.out.cell 0; have j1 := HR.out.cell 1; simp at j0 j1; clear ho))
            go_roundw
            case rel => exact ⟨k + 1, a, i, m2, u, false, by omega, by go_num, (by first | rfl | rw [hu]), rfl, by omega, by omega, by omega, HFL, HS, HR, HC⟩
            case measure => simp [intOf]; omega
      have e2 : (kd == 2) = false := by simpa using k2
      go_wp2_with (first
        | (go_at_call 36; refine (left_any _ g _ _ _ (by omega) (by omega) HS.out).mono ?_; rintro e w9 ⟨rfl, ho⟩; have HR := hide (HR.out.only ho (by simp)); have HS := hide (HS.out.only ho (by simp)); have HC := hide (HC.out.trans (below_of_only ho HC.out.size)); have j0 := HR.out.cell 0; have j1 := HR.out.cell 1; simp at j0 j1; clear ho))
      go_roundw
      case rel => exact ⟨k + 1, a, i, m, last, first, by omega, by go_num, (by first | rfl | rw [hu]), rfl, by omega, by omega, by omega, hfl, HS, HR, HC⟩
      case measure => simp [intOf]; omega
    · obtain rfl : k = n := by omega
      have hge : ¬ (k : Int) < k := by omega
      go_wp2_with fail
      go_ret
      exact ⟨rfl, only_of_below HC.out⟩
end Go.Proofs.YtjkgmkkhjpcngaaDoor

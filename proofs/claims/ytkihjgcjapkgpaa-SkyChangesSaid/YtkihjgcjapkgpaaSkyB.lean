/-
  Contracts of the law's legs, of the reference's At, Length, Turn, and of sky's Route.Length, by walking.
-/
import Derived.Test.YtkihjgcjapkgpaaSkyO
namespace Go.Proofs.Ytkihjgcjapkgpaa
open Go.RowKit Go.Deep

theorem atK_ok {s : Int × Int} {l : List Lg} (h : routesV s l = true) (T : Nat) {k : Nat} (hk : k ≤ l.length) : okP (atK s l T k) = true := by
  obtain ⟨_, h2, h3⟩ := routes_pos h
  rcases Nat.lt_or_ge T (tot l k) with hT | hT
  · have := atK_rest s l T k (by omega) l.length hk
    rw [← this]
    exact routes_at h T
  · rw [atK_pos s l T h3 k hk hT]
    exact h2 k hk
theorem tot_le {s : Int × Int} {l : List Lg} (h : routesV s l = true) : ∀ k, k ≤ l.length → tot l k ≤ k * 10000
  | 0, _ => Nat.zero_le _
  | k + 1, hk => by
    have ih := tot_le h k (by omega)
    have := legOk_bd ((routes_pos h).1 k (by omega))
    show tot l k + (l.getD k zg).2.2.toNat ≤ _
    omega

set_option maxRecDepth 100000 in
set_option maxHeartbeats 3200000 in
theorem legs_any (w : World) (N : List Nat) (v : Value) (s : Int × Int) (l : List Lg) (hv : RdS 3 lgc w N v l) (hl : l.length ≤ 1000) :
    Calls Try.prog 17 #[.agg #[.int .i64 s.1, .int .i64 s.2, v]] w (ListPost 3 lgc l w) := by
  obtain ⟨i0, hi, hz0, hz1, hz2⟩ := info_parts Try.infoLg
  obtain ⟨A, cap, rfl, hc, hm⟩ := hv.form
  unfold maxLen at hm
  have HV := hide hv
  obtain ⟨n, hn⟩ : ∃ n, n = l.length := ⟨_, rfl⟩
  have HN := hide hn
  rw [← hn] at hl hc HV ⊢
  clear hv hn
  have HB := hide ((Blk.new w 41 #[.int .i64 s.1, .int .i64 s.2, .slice A n cap]).alloc (.cells #[] 91))
  have HOW0 := hide (show ((w.alloc (.cells #[.int .i64 s.1, .int .i64 s.2, .slice A n cap] 41)).alloc (.cells #[] 91)).ownsRow (w.heap.size + 1) 91 3 (.slice (some ⟨w.heap.size + 1, 0, none⟩) 0 0) 0 [] from ⟨rfl, .inr ⟨w.heap.size + 1, 0, #[], rfl, Nat.le_refl _, by
    have := heap_alloc_new (w.alloc (.cells #[.int .i64 s.1, .int .i64 s.2, .slice A n cap] 41)) (.cells #[] 91)
    rwa [World.size_alloc] at this, Nat.le_refl _, Nat.zero_le _, rfl, rfl⟩⟩)
  have HO0 := hide (((Only.refl [] w).alloc (.cells #[.int .i64 s.1, .int .i64 s.2, .slice A n cap] 41)).alloc (.cells #[] 91))
  have hsz : w.heap.size + 1 < ((w.alloc (.cells #[.int .i64 s.1, .int .i64 s.2, .slice A n cap] 41)).alloc (.cells #[] 91)).heap.size := by simp
  have k2 := HB.out.cell 2
  simp at k2
  go_enter Try.func17, Try.ntmps17
  go_wp2_with fail
  clear k2
  obtain ⟨w0, hw0⟩ : ∃ w0, w0 = (w.alloc (.cells #[.int .i64 s.1, .int .i64 s.2, .slice A n cap] 41)).alloc (.cells #[] 91) := ⟨_, rfl⟩
  rw [← hw0] at HB HOW0 HO0 hsz ⊢
  clear hw0
  have HSZ := hide hsz
  clear hsz
  go_loopw [4, 3] (fun i v wr => ∃ k : Nat, k ≤ n ∧ i = .int .i64 k ∧ Hid (wr.ownsRow (w.heap.size + 1) 91 3 v k ((l.take k).flatMap lgc)) ∧ Hid (Only [] w wr) ∧ Hid (Blk wr w.heap.size 41 #[.int .i64 s.1, .int .i64 s.2, .slice A n cap]) ∧ Hid (w.heap.size + 1 < wr.heap.size)) (fun i _ _ => n - (intOf i).toNat)
  case atStart => exact ⟨0, Nat.zero_le _, rfl, HOW0, HO0, HB, HSZ⟩
  case round =>
    obtain ⟨k, hk, rfl, how, ho, hb, hs⟩ := hrel
    have k2 := hb.out.cell 2
    simp at k2
    by_cases hlt : k < n
    · have hlt' : (k : Int) < n := by omega
      obtain ⟨g, o, rfl, _, hg⟩ := HV.out.addr (by rw [← HN.out]; omega)
      obtain ⟨c1, c2, c3⟩ := lgs_cell (HV.out.only ho.out (by simp)) (show k < l.length by rw [← HN.out]; exact hlt)
      have HTK := hide (take_succ_getD l zg (show k < l.length by rw [← HN.out]; exact hlt))
      have HKL := hide (show k < l.length by rw [← HN.out]; exact hlt)
      generalize hx : l.getD k zg = x at *
      obtain ⟨x1, x2, x3⟩ := x
      have HX := hide hx
      clear hx
      simp only at c1 c2 c3
      obtain ⟨Av, cv, rfl, _, _⟩ := own_form how.out
      go_upto_region 5 with (fail)
      have HCELL := hide (show ∀ W, Only [] w W → W.cell? ⟨g, o + k * 3, none⟩ = some (.int .i64 x1) ∧ W.cell? ⟨g, o + k * 3 + 1, none⟩ = some (.int .i64 x2) ∧ W.cell? ⟨g, o + k * 3 + 2, none⟩ = some (.int .i64 x3) from fun W hW => by
        have h := lgs_cell (HV.out.only hW (by simp)) HKL.out
        rw [HX.out] at h
        exact h)
      have HOW2 := hide (show (wr.drew.alloc (.cells #[.int .i64 x1, .int .i64 x2, .int .i64 x3] 91)).ownsRow (w.heap.size + 1) 91 3 (.slice Av k cv) k ((l.take k).flatMap lgc) from World.ownsRow.alloc (own_only how.out ((Only.refl [] wr).drew) (by simp)) _)
      have HO2 := hide (show Only [] w (wr.drew.alloc (.cells #[.int .i64 x1, .int .i64 x2, .int .i64 x3] 91)) from ho.out.drew.alloc _)
      have HB2 := hide (show Blk (wr.drew.alloc (.cells #[.int .i64 x1, .int .i64 x2, .int .i64 x3] 91)) w.heap.size 41 _ from hb.out.drew.alloc _)
      have HSZ2 := hide (show w.heap.size + 1 < (wr.drew.alloc (.cells #[.int .i64 x1, .int .i64 x2, .int .i64 x3] 91)).heap.size from by rw [World.size_alloc]; exact Nat.lt_succ_of_lt hs.out)
      have HRN := hide (reads_new wr.drew 91 (lgc (x1, x2, x3)) (wr.heap.size + 1) 3 rfl (Nat.lt_succ_self _))
      have j2 := HB2.out.cell 2
      simp at j2
      obtain ⟨d1, d2, d3⟩ := HCELL.out _ HO2.out
      go_region_held3 (fun w' => w'.cell? ⟨w.heap.size, 2, none⟩ = some (.slice (some ⟨g, o, none⟩) n cap) ∧ w'.cell? ⟨g, o + k * 3, none⟩ = some (.int .i64 x1) ∧ w'.cell? ⟨g, o + k * 3 + 1, none⟩ = some (.int .i64 x2) ∧ w'.cell? ⟨g, o + k * 3 + 2, none⟩ = some (.int .i64 x3))
        (first | exact ⟨k2, c1, c2, c3⟩ | exact ⟨j2, d1, d2, d3⟩ | exact ⟨l2, f1, f2, f3⟩)
        (first
        | (refine step_append_any _ rfl (.tmp 13) (.tmp 35) 45 rfl (w.heap.size + 1) 91 i0 (.agg #[.int .i64 0, .int .i64 0, .int .i64 0]) 3 24 Try.underlying45 hi hz0 hz1 hz2 rfl (by decide) _ k _ rfl HOW2.out _ _ 1 1 (lgc (x1, x2, x3)) rfl HRN.out (by simp [lgc, Value.oneCell']) (by unfold maxLen; omega) (by omega) (Nat.le_of_lt HSZ2.out) ?_; intro v1 w3 hown1 hg1 _; have HOW3 := hide (own_snoc hown1); have HO3 := hide (HO2.out.grown hg1 (fun j hj => .inr (by have := own_block_ge HOW2.out hj; omega))); have HB3 := hide (HB2.out.grown hg1 (fun hj => by have := own_block_ge HOW2.out hj.symm; omega)); have HSZ3 := hide (Nat.lt_of_lt_of_le HSZ2.out hg1.size); have l2 := HB3.out.cell 2; simp at l2; obtain ⟨f1, f2, f3⟩ := HCELL.out _ HO3.out; clear hown1 hg1))
      go_wp2_with fail
      go_roundw
      case rel => exact ⟨k + 1, by omega, by go_num, hide (by rw [HTK.out]; exact HOW3.out), HO3, HB3, HSZ3⟩
      case measure => simp [intOf]; omega
    · have hlt' : ¬ (k : Int) < n := by omega
      obtain rfl : k = n := by omega
      have HR := hide (RdS.of_own (N := []) lgc_len (by omega) how.out (by simp)).1
      rw [HN.out, List.take_length] at HR
      go_wp2_with fail
      go_ret
      exact ⟨_, rfl, HR.out, ho.out⟩

def PtPost (p : Int × Int) (w : World) (e : Ending) (w' : World) : Prop := e = .returned (pt p) ∧ Only [] w w'

set_option maxRecDepth 100000 in
set_option maxHeartbeats 3200000 in
theorem at_ref (w : World) (N : List Nat) (v : Value) (s : Int × Int) (l : List Lg) (T : Nat) (hv : RdS 3 lgc w N v l) (hl : l.length ≤ 1000) (hr : routesV s l = true) (hT : T ≤ 9223372036854775807) :
    Calls Try.prog 19 #[pt s, v, .int .i64 T] w (PtPost (atV s l T) w) := by
  obtain ⟨A, cap, rfl, hc, hm⟩ := hv.form
  unfold maxLen at hm
  have HV := hide hv
  obtain ⟨n, hn⟩ : ∃ n, n = l.length := ⟨_, rfl⟩
  have HN := hide hn
  rw [← hn] at hl hc HV ⊢
  have HLG := hide (routes_pos hr).1
  have HPO := hide (fun k hk => atK_ok hr T (k := k) hk)
  clear hv hn hr
  obtain ⟨b, hb⟩ : ∃ b, b = w.heap.size + 1 + 1 := ⟨_, rfl⟩
  have HO0 := hide ((((Only.refl [] w).alloc (.cells #[.int .i64 s.1, .int .i64 s.2] 33)).alloc (.cells #[.int .i64 0, .int .i64 0] 33)).alloc (.cells #[.int .i64 s.1, .int .i64 s.2] 33))
  have hB := Blk.new ((w.alloc (.cells #[.int .i64 s.1, .int .i64 s.2] 33)).alloc (.cells #[.int .i64 0, .int .i64 0] 33)) 33 #[.int .i64 s.1, .int .i64 s.2]
  have hR := (Blk.new (w.alloc (.cells #[.int .i64 s.1, .int .i64 s.2] 33)) 33 #[.int .i64 0, .int .i64 0]).alloc (.cells #[.int .i64 s.1, .int .i64 s.2] 33)
  rw [World.size_alloc] at hR
  rw [World.size_alloc, World.size_alloc, ← hb] at hB
  unfold pt
  go_enter Try.func19, Try.ntmps19
  have HB := hide hB
  have HR := hide hR
  have HBN := hide hb
  clear hB hR
  go_wp2_with fail
  rw [← hb]
  clear hb
  generalize ((w.alloc (.cells #[.int .i64 s.1, .int .i64 s.2] 33)).alloc (.cells #[.int .i64 0, .int .i64 0] 33)).alloc (.cells #[.int .i64 s.1, .int .i64 s.2] 33) = w0 at *
  go_loopw [8, 2] (fun i t wr => ∃ k : Nat, k ≤ n ∧ i = .int .i64 k ∧ t = .int .i64 (T - tot l k : Nat) ∧ Hid (Blk wr b 33 #[.int .i64 (atK s l T k).1, .int .i64 (atK s l T k).2]) ∧ Hid (Blk wr (w.heap.size + 1) 33 #[.int .i64 0, .int .i64 0]) ∧ Hid (Only [] w wr)) (fun i _ _ => n - (intOf i).toNat)
  case atStart => exact ⟨0, Nat.zero_le _, rfl, rfl, HB, HR, HO0⟩
  case round =>
    obtain ⟨k, hk, rfl, rfl, hblk, hres, ho⟩ := hrel
    have q0 := hblk.out.cell 0
    have q1 := hblk.out.cell 1
    have z := hblk.out.frozen
    simp at q0 q1
    by_cases hlt : k < n
    · have hlt' : (k : Int) < n := by omega
      have hkl := hide (show k < l.length by rw [← HN.out]; exact hlt)
      obtain ⟨g, o, rfl, _, hg⟩ := HV.out.addr (by rw [← HN.out]; omega)
      obtain ⟨c1, c2, c3⟩ := lgs_cell (HV.out.only ho.out (by simp)) hkl.out
      have hlg := legOk_bd (HLG.out k hkl.out)
      have hpb := okP_bd (HPO.out k (Nat.le_of_lt hkl.out))
      have hsuc : atK s l T (k + 1) = ((atK s l T k).1 + (l.getD k zg).1 * (min (T - tot l k) (l.getD k zg).2.2.toNat : Nat), (atK s l T k).2 + (l.getD k zg).2.1 * (min (T - tot l k) (l.getD k zg).2.2.toNat : Nat)) := rfl
      have htot : T - tot l (k + 1) = (T - tot l k) - min (T - tot l k) (l.getD k zg).2.2.toNat := by
        show T - (tot l k + (l.getD k zg).2.2.toNat) = _
        omega
      have HSUC := hide hsuc
      have HTOT := hide htot
      clear hsuc htot
      have hR : T - tot l k ≤ 9223372036854775807 := by omega
      generalize T - tot l k = R at *
      generalize l.getD k zg = x at *
      generalize atK s l T k = p at *
      obtain ⟨x1, x2, x3⟩ := x
      obtain ⟨p1, p2⟩ := p
      simp only at c1 c2 c3 hlg hpb q0 q1
      obtain ⟨m, hm⟩ : ∃ m : Nat, m = min R x3.toNat := ⟨_, rfl⟩
      have HMIN := hide hm
      have hm4 : m ≤ 10000 := by omega
      have hmR : m ≤ R := by omega
      obtain ⟨m11, m12⟩ := mul_bd (s := m) hlg.1.1 hlg.1.2 (by omega) (by omega)
      obtain ⟨m21, m22⟩ := mul_bd (s := m) hlg.2.1.1 hlg.2.1.2 (by omega) (by omega)
      obtain ⟨⟨b11, b12⟩, b21, b22⟩ := hpb
      have hcase : (x3 = m ∧ ¬ (R : Int) < x3) ∨ (R = m ∧ (R : Int) < x3) := by omega
      have HMR := hide hmR
      clear hlg hm
      rcases hcase with ⟨rfl, hcmp⟩ | ⟨rfl, hcmp⟩
      all_goals
        go_upto_region 8 with (fail)
        go_still_tail 21, (by kernel_rfl)
        change wpList _ _ _ _ _ wr.drew
        go_wp2_with fail
        go_roundw
        case rel => exact ⟨k + 1, by omega, by go_num, by
          rw [HTOT.out, ← HMIN.out]; have := HMR.out; congr 1; omega, hide (by
          rw [HSUC.out]; simp only; rw [← HMIN.out]; exact ((hblk.out.set_ 0 _).set_ 1 _).drew), hide ((hres.out.far (p := ⟨b, 0, none⟩) (by rw [HBN.out]; simp) _).far (p := ⟨b, 1, none⟩) (by rw [HBN.out]; simp) _).drew, hide (((ho.out.setCell (p := ⟨b, 0, none⟩) (.inr (by rw [HBN.out]; simp; omega)) _).setCell (p := ⟨b, 1, none⟩) (.inr (by rw [HBN.out]; simp; omega)) _).drew)⟩
        case measure => simp [intOf]; omega
    · have hlt' : ¬ (k : Int) < n := by omega
      obtain rfl : k = n := by omega
      have HEQ := hide (show atV s l T = atK s l T k by unfold atV; rw [← HN.out])
      have r0 := hres.out.cell 0
      have r1 := hres.out.cell 1
      have rz := hres.out.frozen
      simp at r0 r1
      go_wp2_with fail
      refine bodyPost_ret (v := pt (atK s l T k)) ?_ rfl ⟨by rw [HEQ.out], ?_⟩
      · simp [results, Try.results19, go_sem, pt, r0, r1]
      · exact (ho.out.setCell (p := ⟨w.heap.size + 1, 0, none⟩) (.inr (by simp)) _).setCell (p := ⟨w.heap.size + 1, 1, none⟩) (.inr (by simp)) _
end Go.Proofs.Ytkihjgcjapkgpaa

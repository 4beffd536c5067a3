/-
  Walks and plain words (texts Tx4). No condition beyond those that each theorem states.
-/
import Derived.Test.YtokaobilphfdoaaQ11
namespace Go.Proofs.Ytokaobilphfdoaa
section
open Go.RowKit Go.Deep

def fltP (x : Int) (ps : List PRw) : List PRw := ps.filter fun p => decide (p.2.2.2 ≠ x)
theorem fltP_map (x : Int) (ps : List PRw) : (fltP x ps).map Prod.snd = dropV (ps.map Prod.snd) x := by
  unfold fltP dropV
  rw [List.filter_map]; rfl
theorem fltP_len (x : Int) (ps : List PRw) : (fltP x ps).length ≤ ps.length := List.length_filter_le _ _
theorem fltP_yes {x : Int} {ps : List PRw} {k : Nat} {p : PRw} (hp : ps[k]? = some p) (h : p.2.2.2 ≠ x) : fltP x (ps.take (k + 1)) = fltP x (ps.take k) ++ [p] := by
  unfold fltP
  rw [List.take_add_one, hp, List.filter_append]
  simp [h]
theorem fltP_no {x : Int} {ps : List PRw} {k : Nat} {p : PRw} (hp : ps[k]? = some p) (h : p.2.2.2 = x) : fltP x (ps.take (k + 1)) = fltP x (ps.take k) := by
  unfold fltP
  rw [List.take_add_one, hp, List.filter_append]
  simp [h]
set_option maxRecDepth 100000 in
set_option maxHeartbeats 6400000 in
theorem refdrop_any (v : Value) (l : List Rw) (x : Int) (N : List Nat) (w : World) (hv : RowsRd 3 rowC w N v l) (hN : ∀ x ∈ N, x < w.heap.size) (hl : l.length ≤ 1000) :
    Calls Try.prog 12 #[v, .int .i64 x] w (PutRPost N (dropV l x) w) := by
  obtain ⟨ps, hps, hrd, hrows⟩ := hv
  obtain ⟨A, c, rfl, hnc, hcm⟩ := hrd.form
  obtain ⟨n, hn⟩ : ∃ n, n = ps.length := ⟨_, rfl⟩
  rw [← hn] at hrd hnc ⊢
  have HRD := hide (show RdS 3 rowC w [] (.slice A n c) ps from by
    obtain ⟨A', c', h1, h2, h3, h4⟩ := hrd
    exact ⟨A', c', h1, h2, h3, h4.imp id (fun ⟨g, o, e1, _, e2⟩ => ⟨g, o, e1, (by simp), e2⟩)⟩)
  have HROWS := hide hrows
  have HFORM := hide (rows_forms hrows)
  have HPS := hide hps
  have HN := hide hn
  have HNN := hide hN
  have HL1 := hide (show ps.length ≤ 1000 from by rw [← List.length_map (f := Prod.snd), hps]; exact hl)
  have hn1000 : n ≤ 1000 := by rw [hn]; exact HL1.out
  have HO := hide ((Only.refl [] w).alloc (.cells #[] 57))
  have HOW := hide (ownR_empty w w.heap.size (Nat.le_refl _))
  clear hps hrd hrows hN hl hcm hn
  go_enter Try.func12, Try.ntmps12
  go_wp2_with fail
  obtain ⟨w1, hw1⟩ : ∃ w1, w1 = w.alloc (.cells #[] 57) := ⟨_, rfl⟩
  rw [← hw1] at HO HOW ⊢
  clear hw1
  go_loopw [5, 6] (fun out i wr => ∃ k : Nat, k ≤ n ∧ i = .int .i64 k ∧ Hid (OwnR wr w.heap.size out (fltP x (ps.take k))) ∧ Hid (Only [] w wr)) (fun _ i _ => n - (intOf i).toNat)
  case atStart => exact ⟨0, Nat.zero_le _, rfl, hide HOW.out, HO⟩
  case round =>
    obtain ⟨k, hk, rfl, HW, HX⟩ := hrel
    obtain ⟨Ao, co, ho1, _, _⟩ := own_form HW.out
    obtain ⟨no, hno⟩ : ∃ no, no = (fltP x (ps.take k)).length := ⟨_, rfl⟩
    rw [← hno] at ho1
    subst ho1
    clear hno
    by_cases hlt : k < n
    · have hltI : (k : Int) < (n : Int) := by omega
      obtain ⟨p, hp⟩ : ∃ p, ps[k]? = some p := ⟨_, List.getElem?_eq_getElem (by rw [← HN.out]; exact hlt)⟩
      obtain ⟨g, o, rfl, _, _⟩ := HRD.out.addr (by rw [← HN.out]; omega)
      have HP := hide hp
      obtain ⟨pv, pl, pb, px⟩ := p
      obtain ⟨Ap, cp, hpv, _, _⟩ := (HROWS.out _ (List.mem_of_getElem? hp)).formb
      simp only at hpv
      subst hpv
      have hr2 := HRD.out.only HX.out (by simp)
      have c0 := hr2.cell hp (show (rowC (.slice Ap pl.length cp, pl, pb, px))[0]? = some (.slice Ap pl.length cp) from rfl)
      have c1 := hr2.cell hp (show (rowC (.slice Ap pl.length cp, pl, pb, px))[1]? = some (.int .i64 pb) from rfl)
      have c2 := hr2.cell hp (show (rowC (.slice Ap pl.length cp, pl, pb, px))[2]? = some (.int .i64 px) from rfl)
      rw [Nat.add_zero] at c0
      rw [← Nat.add_assoc] at c1 c2
      clear hr2 hp
      by_cases he : px = x
      · have hb : (px != x) = false := by rw [bne_eq_false_iff_eq]; exact he
        have HF := hide (fltP_no HP.out he)
        clear he
        go_wp2_with fail
        go_roundw
        case rel => exact ⟨k + 1, by omega, by go_num, hide (by rw [HF.out]; exact HW.out), HX⟩
        case measure => simp [intOf]; omega
      · have hb : (px != x) = true := by rw [bne_iff_ne]; exact he
        have HF := hide (fltP_yes HP.out he)
        have HWA := hide (HW.out.only ((Only.refl [] wr).alloc (.cells #[.slice Ap pl.length cp, .int .i64 pb, .int .i64 px] 57)))
        have HXA := hide (HX.out.alloc (.cells #[.slice Ap pl.length cp, .int .i64 pb, .int .i64 px] 57))
        have HB1 := hide (rds_one (p := (.slice Ap pl.length cp, pl, pb, px)) (Blk.new wr 57 #[.slice Ap pl.length cp, .int .i64 pb, .int .i64 px]))
        have hle := fltP_len x (ps.take k)
        have HLE := hide (show (fltP x (ps.take k)).length ≤ 1000 from by rw [List.length_take] at hle; have := HL1.out; omega)
        clear he hle
        go_wp2_with (at_builtin; refine wpList_rows_append (w0 := w) rfl _ _ rfl w.heap.size (.slice Ao no co) (fltP x (ps.take k)) [(.slice Ap pl.length cp, pl, pb, px)] rfl HWA.out _ _ _ rfl HB1.out (by simp) (by have := HLE.out; simp only [List.length_singleton]; omega) HXA.out.size HXA.out (Nat.le_refl _) ?_; intro v' w' h1 h2 _; have HW2 := hide h1; have HX2 := hide h2; clear h1 h2)
        go_roundw
        case rel => exact ⟨k + 1, by omega, by go_num, hide (by rw [HF.out]; exact HW2.out), HX2⟩
        case measure => simp [intOf]; omega
    · obtain rfl : k = n := by omega
      have hge : ¬ (k : Int) < (k : Int) := by omega
      go_wp2_with fail
      go_ret
      refine ⟨_, rfl, ?_, HX.out⟩
      have ht : ps.take k = ps := by rw [HN.out, List.take_length]
      have h := HW.out
      rw [ht] at h
      refine ⟨fltP x ps, by rw [fltP_map, HPS.out], h.rd HNN.out, fun p hp => (HROWS.out p (List.mem_filter.1 hp).1).only HX.out (by simp)⟩
end
end Go.Proofs.Ytokaobilphfdoaa

/-
  Contracts of ring.New, Clear, All, and of the reference's Push and Same, by walking.
-/
import Derived.Test.YtokpdhcgclfmnaaChecked
import Derived.Test.YtokpdhcgclfmnaaRing
import Derived.Test.YtokpdhcgclfmnaaSl
import Derived.Lib.SliceRun
import Derived.Deep.RegionLaw
namespace Go.Proofs.Ytokpdhcgclfmnaa
open Go.RowKit Go.Deep

theorem ring_new_bad (m : Int) (w : World) (h : m < 1 ∨ 4096 < m) :
    Calls Try.prog 13 #[.int .i64 m] w fun e w' => e = .returned (.tuple #[.pointer none, .int .i64 2]) ∧ w = w' := by
  go_enter Try.func13, Try.ntmps13
  go_wp2
  all_goals
    go_ret2
    exact ⟨rfl, rfl⟩

theorem Try.info33 : (Try.prog.info? 33).map (fun i => (i.zero, i.size, i.bytes)) = some (some (.int .u64 0), 1, 8) := by kernel_rfl

theorem ring_new (n : Nat) (w : World) (h1 : 1 ≤ n) (h2 : n ≤ 4096) :
    Calls Try.prog 13 #[.int .i64 n] w fun e w' => ∃ b g, e = .returned (.tuple #[.pointer (some ⟨b, 0, none⟩), .int .i64 0]) ∧ RingAt w' b g n (List.replicate n 0) 0 0 ∧ Only [] w w' ∧ w.heap.size ≤ b ∧ w.heap.size ≤ g := by
  have hmk := fun W => run_make_row' (P := Try.prog) 34 33 (.int .u64 0) 8 Try.underlying34 Try.info33 rfl .i64 .i64 n (by omega) (by omega) W
  go_enter Try.func13, Try.ntmps13
  go_wp2_with fail
  go_ret2
  have e1 : (madeCells #[Value.int IntKind.u64 0] n) = (((List.replicate n 0).map (Value.int .u64)).toArray) := by
    apply Array.toList_inj.1
    rw [toList_madeCells_one]
    simp
  rw [e1]
  refine ⟨w.heap.size + 1, w.heap.size, rfl, ⟨?_, ?_, by simp, by omega, by omega, h2⟩, ?_, by omega, by omega⟩
  · have h := Blk.new (w.alloc (Obj.cells ((List.replicate n 0).map (Value.int .u64)).toArray 33)) 59 #[.slice (some ⟨w.heap.size, 0, none⟩) n n, .int .i64 0, .int .i64 0]
    simpa using h
  · exact (Blk.new w 33 _).alloc _
  · exact ((Only.refl _ _).alloc _).alloc _

theorem Try.zero33 (w : World) : (zeroValue 33).run Try.prog w = .ok (.int .u64 0) w := by kernel_rfl

theorem ring_clear (w : World) (b g n : Nat) (xs : List Int) (f c : Nat) (hr : RingAt w b g n xs f c) :
    Calls Try.prog 18 #[.pointer (some ⟨b, 0, none⟩)] w fun e w' => e = .returned (.int .i64 c) ∧ RingAt w' b g n (List.replicate n 0) 0 0 ∧ Only [b, g] w w' := by
  obtain ⟨hb, hg, hl, hf, hc, hn1⟩ := hr
  have hbg := hb.ne_ hg (by decide)
  have hgb := Ne.symm hbg
  have h0 := hb.cell 0
  have h1 := hb.cell 1
  have h2 := hb.cell 2
  simp at h0 h1 h2
  have zb := hb.frozen
  have hcl : ∀ ty, (Builtin.clear_ #[34] ty #[.slice (some ⟨g, 0, none⟩) n n]).run Try.prog w = .ok (.tuple #[]) (w.setCells g 0 (List.replicate n (.int .u64 0))) :=
    fun ty => Lib.run_clear_slice w 34 33 ty (.int .u64 0) Try.underlying34 Try.zero33 rfl rfl g 0 n n (by omega)
      (fun j hj => by rw [hg.cell]; simp [hl, hj]) (fun j _ => by rw [hg.frozen])
  have hB := (Blk.setCells_far hgb 0 (List.replicate n (.int .u64 0)) hb)
  have hG := hg.setCells_whole (vs := List.replicate n (.int .u64 0)) (by simp [hl])
  have hO := Only.setCells (a := w) (g := g) (S := [b, g]) (.inl (by simp)) 0 (List.replicate n (.int .u64 0)) (Only.refl [b, g] w)
  generalize w.setCells g 0 (List.replicate n (.int .u64 0)) = w1 at *
  have k1 := hB.cell 1
  have k2 := hB.cell 2
  simp at k1 k2
  have zb1 := hB.frozen
  have HB := hide hB
  have HG := hide hG
  have HO := hide hO
  clear hb hg hl hB hG hO
  go_enter Try.func18, Try.ntmps18
  go_wp2_with fail
  go_ret
  refine ⟨rfl, ⟨?_, ?_, by simp, by omega, by omega, hn1⟩, ?_⟩
  · have h := ((HB.out.set_ 1 (.int .i64 0)).set_ 2 (.int .i64 0))
    simpa using h
  · have h := ((HG.out.far (p := ⟨b, 1, none⟩) hgb (.int .i64 0)).far (p := ⟨b, 2, none⟩) hgb (.int .i64 0))
    simpa using h
  · exact (HO.out.setCell (.inl (by simp)) _).setCell (.inl (by simp)) _

theorem same_any (v u : Value) (xs ys : List Int) (N M : List Nat) (w : World) (hx : Rd w N v (ints .u64 xs)) (hy : Rd w M u (ints .u64 ys)) :
    Calls Try.prog 21 #[v, u] w fun e w' => e = .returned (.bool (decide (xs = ys))) ∧ ∃ k, w' = w.drewN k := by
  obtain ⟨A, cap, rfl, hc, hm⟩ := hx.form
  obtain ⟨A', cap', rfl, hc', hm'⟩ := hy.form
  rw [ints_length] at hx hc ⊢
  rw [ints_length] at hy hc' ⊢
  unfold maxLen at hm hm'
  by_cases hl : xs.length = ys.length
  case neg =>
    have hd : decide (xs = ys) = false := by rw [decide_eq_false_iff_not]; intro h; exact hl (by rw [h])
    have hne : ((xs.length : Int) != ys.length) = true := by rw [bne_iff_ne]; omega
    rw [hd]
    clear hl hd
    go_enter Try.func21, Try.ntmps21
    go_wp2
    go_ret
    exact ⟨rfl, 0, rfl⟩
  have hne : ((xs.length : Int) != ys.length) = false := by rw [bne_eq_false_iff_eq]; omega
  have hx4 := hx.at_.2.2.2
  have hy4 := hy.at_.2.2.2
  have HX := hide hx4
  have HY := hide hy4
  have HL := hide hl
  obtain ⟨n, hn⟩ : ∃ n, n = xs.length := ⟨_, rfl⟩
  have HN := hide hn
  rw [← hl] at hc' ⊢
  rw [← hn] at hc hc' ⊢
  rw [← hl, ← hn] at hne
  clear hx hy hx4 hy4 hl hn
  go_enter Try.func21, Try.ntmps21
  go_wp2_with fail
  go_loopw [5] (fun i wr => ∃ k : Nat, k ≤ n ∧ i = .int .i64 k ∧ (∃ m, wr = w.drewN m) ∧ Hid (xs.take k = ys.take k)) (fun i _ => n - (intOf i).toNat)
  case atStart => exact ⟨0, Nat.zero_le _, rfl, ⟨0, rfl⟩, hide (by simp)⟩
  case round =>
    obtain ⟨k, hk, rfl, ⟨m, rfl⟩, hpre⟩ := hrel
    rcases Nat.lt_or_ge k n with hlt | hge
    case inr =>
      have hfin : decide (xs = ys) = true := by
        have h1 := hpre.out
        rw [show k = n by omega, HN.out, List.take_length, HL.out, List.take_length] at h1
        simp [h1]
      have HF := hide hfin
      have hi : ¬ (k : Int) < n := by omega
      clear hfin hge
      go_wp2
      go_ret
      exact ⟨by rw [HF.out]; rfl, _, by first | rfl | exact World.drewN_drewN _ _ _⟩
    case inl =>
      have hkx : xs[k]? = some (xs[k]'(by rw [← HN.out]; exact hlt)) := List.getElem?_eq_getElem _
      have hky : ys[k]? = some (ys[k]'(by rw [← HL.out, ← HN.out]; exact hlt)) := List.getElem?_eq_getElem _
      generalize (xs[k]'(by rw [← HN.out]; exact hlt)) = x at hkx
      generalize (ys[k]'(by rw [← HL.out, ← HN.out]; exact hlt)) = y at hky
      obtain ⟨g, o, rfl, _, _, hcx⟩ := HX.out k _ (ints_get hkx)
      obtain ⟨g', o', rfl, _, _, hcy⟩ := HY.out k _ (ints_get hky)
      have HKX := hide hkx
      have HKY := hide hky
      clear hkx hky
      have hi : (k : Int) < n := by omega
      by_cases hxy : x = y
      · subst hxy
        have hne3 : (x != x) = false := by simp
        go_wp2_with fail
        go_quiet (fail)
        go_wp2_with fail
        go_roundw
        case rel => exact ⟨k + 1, by omega, by go_num, ⟨_, rfl⟩, hide (by rw [List.take_add_one, List.take_add_one, hpre.out, HKX.out, HKY.out])⟩
        case measure => simp [intOf]; omega
      · have hne3 : (x != y) = true := by rw [bne_iff_ne]; exact hxy
        have hfin : decide (xs = ys) = false := by
          rw [decide_eq_false_iff_not]
          intro h
          have h1 := HKX.out
          rw [h, HKY.out] at h1
          injection h1 with h1
          exact hxy h1.symm
        have HF := hide hfin
        clear hfin hxy
        go_wp2_with fail
        go_quiet (fail)
        go_wp2_with fail
        go_ret
        exact ⟨by rw [HF.out]; rfl, _, by first | rfl | exact World.drewN_drewN _ _ _⟩
end Go.Proofs.Ytokpdhcgclfmnaa

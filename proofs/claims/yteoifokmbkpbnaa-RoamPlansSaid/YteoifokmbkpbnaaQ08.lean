/-
  Walks and plain words (texts Ro7). No condition beyond those that each theorem states.
-/
import Derived.Deep.RegionHeld3
import Derived.Test.YteoifokmbkpbnaaQ07
namespace Go.Proofs.Yteoifokmbkpbnaa
section
open Go.RowKit Go.Deep

def rkey (r : Rt) : (Int × Int) × List Lg := (r.1, r.2.2)
def AsPost (m : List (Int × Int)) (rs : List Rt) (w : World) (e : Ending) (w' : World) : Prop := ∃ v1 v2 rs', e = .returned (.tuple #[v1, v2]) ∧ RdS 2 ptc w' [] v1 m ∧ RdR w' [] v2 rs' ∧ rs'.map rkey = rs.map rkey ∧ Only [] w w'
theorem own_in {w a b : World} {qs : List Nat} (h : Only [] w a) (k : Only qs a b) (hq : ∀ x ∈ qs, w.heap.size ≤ x) : Only [] w b :=
  ((h.mono (S' := qs) (by simp)).trans k).mono (fun x hx => .inr (hq x hx))
theorem only_in7 {w a b : World} {g : Nat} (h : Only [] w a) (k : Only [g] a b) (hg : w.heap.size ≤ g) : Only [] w b := own_in h k (by simpa using hg)
theorem own_only2 {S : List Nat} {w w' : World} {base e size n : Nat} {v : Value} {xs : List Value} (h : w.ownsRow base e size v n xs) (ho : Only S w w') (hS : ∀ x ∈ S, ¬ v.ownBlock = some x) : w'.ownsRow base e size v n xs := by
  obtain ⟨h1, h2⟩ := h
  refine ⟨h1, ?_⟩
  rcases h2 with h2 | ⟨g, cap, cur, rfl, hg, hh, h3⟩
  · exact .inl h2
  · exact .inr ⟨g, cap, cur, rfl, hg, (ho.block g (Blk.lt (t := e) (cs := cur) hh) (fun hx => hS g hx rfl)).trans hh, h3⟩
theorem own_block_lt7 {w : World} {base e size n : Nat} {v : Value} {xs : List Value} (h : w.ownsRow base e size v n xs) {j : Nat} (hj : v.ownBlock = some j) : j < w.heap.size := by
  rcases h.2 with ⟨h1, _⟩ | ⟨g3, cap3, cur, h1, hg3, hh, _⟩
  · subst h1; cases hj
  · subst h1; injection hj with hj; subst hj; exact Blk.lt (t := e) (cs := cur) hh
theorem size_setCells7 (g : Nat) : ∀ (l : List Value) (o : Nat) (w : World), (w.setCells g o l).heap.size = w.heap.size
  | [], _, _ => rfl
  | _ :: r, o, w => (size_setCells7 g r (o + 1) _).trans (by simp [World.setCell])
theorem legs_all {wA w3 : World} {v v' : Value} {L : List Rt} {r0 : Rt} (h : ∀ r ∈ L, RdS 3 lgc wA v.ownBlock.toList r.2.1 r.2.2) (h0 : RdS 3 lgc wA v.ownBlock.toList r0.2.1 r0.2.2) (hg : wA.grownBy w3 v.ownBlock) (hv : v'.ownBlock = v.ownBlock ∨ v'.ownBlock = some wA.heap.size) :
    ∀ r ∈ L ++ [r0], RdS 3 lgc w3 v'.ownBlock.toList r.2.1 r.2.2 := by
  intro r hr
  have h1 : RdS 3 lgc wA v.ownBlock.toList r.2.1 r.2.2 := by
    rcases List.mem_append.1 hr with hr | hr
    · exact h r hr
    · obtain rfl : r = r0 := by simpa using hr
      exact h0
  have h2 := h1.more (N' := v.ownBlock.toList ++ v'.ownBlock.toList) (fun x hx => by
    rcases List.mem_append.1 hx with hx | hx
    · exact .inl hx
    · rcases hv with hv | hv
      · rw [hv] at hx; exact .inl hx
      · rw [hv] at hx; exact .inr (by simp at hx; omega))
  have h3 := h2.only (S := v.ownBlock.toList) ((Only.refl _ wA).grown hg (fun k hk => .inl (by simp [hk]))) (fun x hx => List.mem_append_left _ hx)
  exact h3.more (fun x hx => .inl (List.mem_append_right _ hx))
theorem info_rt22 : (Try.prog.info? 102).map (fun i => (i.zero, i.size, i.bytes)) = some (some (.agg #[.int .i64 0, .int .i64 0, .slice none 0 0]), 3, 40) := by kernel_rfl
set_option maxRecDepth 100000 in
set_option maxHeartbeats 12800000 in
theorem as_any (w : World) (N M : List Nat) (mv rv : Value) (m : List (Int × Int)) (rs : List Rt) (hm : RdS 2 ptc w N mv m) (hml : m.length ≤ 1000) (hr : RdR w M rv rs) (hrl : rs.length ≤ 1000) (hll : ∀ r ∈ rs, r.2.2.length ≤ 1000) :
    Calls Try.prog 20 #[.agg #[mv, rv]] w (AsPost m rs w) := by
  obtain ⟨i0, hi, hz0, hz1, hz2⟩ := info_parts Try.infoPt
  obtain ⟨i1, hi1, hx0, hx1, hx2⟩ := info_parts info_rt22
  obtain ⟨i2, hi2, hy0, hy1, hy2⟩ := info_parts Try.infoLg
  obtain ⟨Am, cm, rfl, hcm, hmm⟩ := hm.form
  obtain ⟨A, cap, rfl, hcap, hmx⟩ := hr.1.form
  unfold maxLen at hmx hmm
  have HV := hide (hm.only (N := N) (Only.refl [] w) (by simp))
  have HR := hide hr
  obtain ⟨nm, hnm⟩ : ∃ n, n = m.length := ⟨_, rfl⟩
  obtain ⟨n, hn⟩ : ∃ n, n = rs.length := ⟨_, rfl⟩
  have HNM := hide hnm
  have HN := hide hn
  rw [← hnm] at hml hcm HV ⊢
  rw [← hn] at hrl hcap HR ⊢
  clear hm hr hnm hn
  have HB := hide ((Blk.new w 49 #[.slice Am nm cm, .slice A n cap]).alloc (.cells #[] 99))
  have HOW0 := hide (show ((w.alloc (.cells #[.slice Am nm cm, .slice A n cap] 49)).alloc (.cells #[] 99)).ownsRow (w.heap.size + 1) 99 2 (.slice (some ⟨w.heap.size + 1, 0, none⟩) 0 0) 0 [] from ⟨rfl, .inr ⟨w.heap.size + 1, 0, #[], rfl, Nat.le_refl _, by
    have := heap_alloc_new (w.alloc (.cells #[.slice Am nm cm, .slice A n cap] 49)) (.cells #[] 99)
    rwa [World.size_alloc] at this, Nat.le_refl _, Nat.zero_le _, rfl, rfl⟩⟩)
  have HO0 := hide (((Only.refl [] w).alloc (.cells #[.slice Am nm cm, .slice A n cap] 49)).alloc (.cells #[] 99))
  have k0 := HB.out.cell 0
  simp at k0
  go_enter Try.func20, Try.ntmps20
  go_wp2_with fail
  clear k0
  obtain ⟨wA, hwA⟩ : ∃ wA, wA = (w.alloc (.cells #[.slice Am nm cm, .slice A n cap] 49)).alloc (.cells #[] 99) := ⟨_, rfl⟩
  rw [← hwA] at HB HOW0 HO0 ⊢
  clear hwA
  go_loopw [5, 4] (fun i v wr => ∃ k : Nat, k ≤ nm ∧ i = .int .i64 k ∧ Hid (wr.ownsRow (w.heap.size + 1) 99 2 v k ((m.take k).flatMap ptc)) ∧ Hid (Only [] w wr) ∧ Hid (Blk wr w.heap.size 49 #[.slice Am nm cm, .slice A n cap])) (fun i _ _ => nm - (intOf i).toNat)
  case atStart => exact ⟨0, Nat.zero_le _, rfl, HOW0, HO0, HB⟩
  case round =>
    obtain ⟨k, hk, rfl, how, ho, hb⟩ := hrel
    clear HB
    have HB := hb
    clear hb
    have k0 := HB.out.cell 0
    simp at k0
    by_cases hlt : k < nm
    · have hlt' : (k : Int) < nm := by omega
      obtain ⟨g, o, rfl, _, hg⟩ := HV.out.addr (by rw [← HNM.out]; omega)
      have HCE := hide (show ∀ W, Only [] w W → _ from fun W h => pts_cell (HV.out.only (w' := W) (S := []) h (by simp)) (show k < m.length by rw [← HNM.out]; exact hlt))
      have HTK := hide (take_succ_getD m (0, 0) (show k < m.length by rw [← HNM.out]; exact hlt))
      generalize m.getD k (0, 0) = x at *
      obtain ⟨x1, x2⟩ := x
      simp only at HCE
      obtain ⟨Av, cv, rfl, _, _⟩ := own_form how.out
      obtain ⟨qs, hqs⟩ : ∃ qs, qs = (Value.slice Av k cv).ownBlock.toList := ⟨_, rfl⟩
      have HQS := hide hqs
      have HQG := hide (show ∀ x ∈ qs, w.heap.size + 1 ≤ x from fun x hx => by rw [hqs] at hx; exact own_block_ge how.out (by simpa using hx))
      have HIN := hide (show ∀ W, Only qs wr W → Only [] w W from fun W h => own_in ho.out h (fun x hx => by have := HQG.out x hx; omega))
      have HIB := hide (show ∀ W, Only qs wr W → Blk W w.heap.size 49 #[.slice (some ⟨g, o, none⟩) nm cm, .slice A n cap] from fun W h => HB.out.only h (fun hx => by have := HQG.out _ hx; omega))
      have HBD := hide (show Blk wr.drew w.heap.size 49 #[.slice (some ⟨g, o, none⟩) nm cm, .slice A n cap] from HB.out)
      have HOWD := hide (own_only how.out (Only.refl [] wr).drew (by simp))
      clear hqs
      go_upto_region 5 with fail
      refine wp_region_held_drew (S := fun W => Only qs wr W) (by kernel_rfl) (by exact (Only.refl qs wr).drew) (fun hHeld => ?_)
      generalize wr.drew = wd5 at *
      refine wpAnyH_take (i := 0) (v := ?_) rfl (by kernel_rfl) (by kernel_rfl) (by kernel_rfl) (fun _ _ _ h => h) (Or.inl ⟨by rfl, ?_⟩) (by assumption) ?_
      rotate_left
      · (intro w hSw; (try dsimp only at hSw); go_simp; try with_reducible rfl)
      try simp only [List.getElem_toArray, List.getElem_cons_succ, List.getElem_cons_zero, Act.put, List.setIfInBounds_toArray, List.set_cons_zero, List.set_cons_succ]
      refine wpAnyH_take (i := 1) (v := ?_) rfl (by kernel_rfl) (by kernel_rfl) (by kernel_rfl) (fun _ _ _ h => h) (Or.inl ⟨by rfl, ?_⟩) (by assumption) ?_
      rotate_left
      · (intro w hSw; (try dsimp only at hSw); go_simp; try with_reducible rfl)
      try simp only [List.getElem_toArray, List.getElem_cons_succ, List.getElem_cons_zero, Act.put, List.setIfInBounds_toArray, List.set_cons_zero, List.set_cons_succ]
      refine wpAnyH_take (i := 2) (v := ?_) rfl (by kernel_rfl) (by kernel_rfl) (by kernel_rfl) (fun _ _ _ h => h) (Or.inl ⟨by rfl, ?_⟩) (by assumption) ?_
      rotate_left
      · (intro w hSw; (try dsimp only at hSw); have kk := (HIB.out _ hSw).cell 0; simp at kk; go_simp; try with_reducible rfl)
      try simp only [List.getElem_toArray, List.getElem_cons_succ, List.getElem_cons_zero, Act.put, List.setIfInBounds_toArray, List.set_cons_zero, List.set_cons_succ]
      refine wpAnyH_take (i := 3) (v := ?_) rfl (by kernel_rfl) (by kernel_rfl) (by kernel_rfl) (fun _ _ _ h => h) (Or.inl ⟨by rfl, ?_⟩) (by assumption) ?_
      rotate_left
      · (intro w hSw; (try dsimp only at hSw); go_simp; try with_reducible rfl)
      try simp only [List.getElem_toArray, List.getElem_cons_succ, List.getElem_cons_zero, Act.put, List.setIfInBounds_toArray, List.set_cons_zero, List.set_cons_succ]
      refine wpAnyH_take (i := 4) (v := ?_) rfl (by kernel_rfl) (by kernel_rfl) (by kernel_rfl) (fun _ _ _ h => h) (Or.inl ⟨by rfl, ?_⟩) (by assumption) ?_
      rotate_left
      · (intro w hSw; (try dsimp only at hSw); go_simp; try with_reducible rfl)
      try simp only [List.getElem_toArray, List.getElem_cons_succ, List.getElem_cons_zero, Act.put, List.setIfInBounds_toArray, List.set_cons_zero, List.set_cons_succ]
      refine wpAnyH_take (i := 5) (v := ?_) rfl (by kernel_rfl) (by kernel_rfl) (by kernel_rfl) (fun _ _ _ h => h) (Or.inl ⟨by rfl, ?_⟩) (by assumption) ?_
      rotate_left
      · (intro w hSw; (try dsimp only at hSw); go_simp; try with_reducible rfl)
      try simp only [List.getElem_toArray, List.getElem_cons_succ, List.getElem_cons_zero, Act.put, List.setIfInBounds_toArray, List.set_cons_zero, List.set_cons_succ]
      refine wpAnyH_take (i := 6) (v := ?_) rfl (by kernel_rfl) (by kernel_rfl) (by kernel_rfl) (fun _ _ _ h => h) (Or.inl ⟨by rfl, ?_⟩) (by assumption) ?_
      rotate_left
      · (intro w hSw; (try dsimp only at hSw); have cc := (HCE.out _ (HIN.out _ hSw)).1; go_simp; try with_reducible rfl)
      try simp only [List.getElem_toArray, List.getElem_cons_succ, List.getElem_cons_zero, Act.put, List.setIfInBounds_toArray, List.set_cons_zero, List.set_cons_succ]
      refine wpAnyH_take (i := 7) (v := ?_) rfl (by kernel_rfl) (by kernel_rfl) (by kernel_rfl) (fun _ _ _ h => h) (Or.inl ⟨by rfl, ?_⟩) (by assumption) ?_
      rotate_left
      · (intro w hSw; (try dsimp only at hSw); go_simp; try with_reducible rfl)
      try simp only [List.getElem_toArray, List.getElem_cons_succ, List.getElem_cons_zero, Act.put, List.setIfInBounds_toArray, List.set_cons_zero, List.set_cons_succ]
      refine wpAnyH_take (i := 8) (v := ?_) rfl (by kernel_rfl) (by kernel_rfl) (by kernel_rfl) (fun _ _ _ h => h) (Or.inl ⟨by rfl, ?_⟩) (by assumption) ?_
      rotate_left
      · (intro w hSw; (try dsimp only at hSw); have kk := (HIB.out _ hSw).cell 0; simp at kk; go_simp; try with_reducible rfl)
      try simp only [List.getElem_toArray, List.getElem_cons_succ, List.getElem_cons_zero, Act.put, List.setIfInBounds_toArray, List.set_cons_zero, List.set_cons_succ]
      refine wpAnyH_take (i := 9) (v := ?_) rfl (by kernel_rfl) (by kernel_rfl) (by kernel_rfl) (fun _ _ _ h => h) (Or.inl ⟨by rfl, ?_⟩) (by assumption) ?_
      rotate_left
      · (intro w hSw; (try dsimp only at hSw); go_simp; try with_reducible rfl)
      try simp only [List.getElem_toArray, List.getElem_cons_succ, List.getElem_cons_zero, Act.put, List.setIfInBounds_toArray, List.set_cons_zero, List.set_cons_succ]
      refine wpAnyH_take (i := 10) (v := ?_) rfl (by kernel_rfl) (by kernel_rfl) (by kernel_rfl) (fun _ _ _ h => h) (Or.inl ⟨by rfl, ?_⟩) (by assumption) ?_
      rotate_left
      · (intro w hSw; (try dsimp only at hSw); go_simp; try with_reducible rfl)
      try simp only [List.getElem_toArray, List.getElem_cons_succ, List.getElem_cons_zero, Act.put, List.setIfInBounds_toArray, List.set_cons_zero, List.set_cons_succ]
      refine wpAnyH_take (i := 11) (v := ?_) rfl (by kernel_rfl) (by kernel_rfl) (by kernel_rfl) (fun _ _ _ h => h) (Or.inl ⟨by rfl, ?_⟩) (by assumption) ?_
      rotate_left
      · (intro w hSw; (try dsimp only at hSw); go_simp; try with_reducible rfl)
      try simp only [List.getElem_toArray, List.getElem_cons_succ, List.getElem_cons_zero, Act.put, List.setIfInBounds_toArray, List.set_cons_zero, List.set_cons_succ]
      refine wpAnyH_take (i := 12) (v := ?_) rfl (by kernel_rfl) (by kernel_rfl) (by kernel_rfl) (fun _ _ _ h => h) (Or.inl ⟨by rfl, ?_⟩) (by assumption) ?_
      rotate_left
      · (intro w hSw; (try dsimp only at hSw); have cc := (HCE.out _ (HIN.out _ hSw)).2; go_simp; try with_reducible rfl)
      try simp only [List.getElem_toArray, List.getElem_cons_succ, List.getElem_cons_zero, Act.put, List.setIfInBounds_toArray, List.set_cons_zero, List.set_cons_succ]
      refine wpAnyH_take (i := 13) (v := ?_) rfl (by kernel_rfl) (by kernel_rfl) (by kernel_rfl) (fun _ _ _ h => h) (Or.inl ⟨by rfl, ?_⟩) (by assumption) ?_
      rotate_left
      · (intro w hSw; (try dsimp only at hSw); go_simp; try with_reducible rfl)
      try simp only [List.getElem_toArray, List.getElem_cons_succ, List.getElem_cons_zero, Act.put, List.setIfInBounds_toArray, List.set_cons_zero, List.set_cons_succ]
      refine wpAnyH_ready (rs := [14]) (by kernel_rfl) (by simp) ?_
      refine (AllReadyH.cons rfl (fun K hK => ?_) AllReadyH.nil)
      go_simp
      refine hK.out _ _ (by exact hHeld.alloc _) (fun hHeldN => ?_)
      clear hK K hHeld
      have hHeld := hHeldN
      clear hHeldN
      try simp only [List.getElem_toArray, List.getElem_cons_succ, List.getElem_cons_zero, Act.put, List.setIfInBounds_toArray, List.set_cons_zero, List.set_cons_succ]
      have HOW2 := hide (World.ownsRow.alloc HOWD.out (.cells #[.int .i64 x1, .int .i64 x2] 99))
      have HRN := hide (reads_new wd5 99 (ptc (x1, x2)) (wd5.heap.size + 1) 2 rfl (Nat.lt_succ_self _))
      have HSZ2 := hide (show w.heap.size + 1 ≤ (wd5.alloc (.cells #[.int .i64 x1, .int .i64 x2] 99)).heap.size from Nat.le_of_lt (by have h := (HBD.out.alloc (.cells #[.int .i64 x1, .int .i64 x2] 99)).lt; rw [World.size_alloc]; have := HBD.out.lt; omega))
      refine wpAnyH_ready (rs := [15]) (by kernel_rfl) (by simp) ?_
      refine (AllReadyH.cons rfl (fun K hK => ?_) AllReadyH.nil)
      refine step_append_any _ rfl (.tmp 19) (.tmp 33) 51 rfl (w.heap.size + 1) 99 i0 (.agg #[.int .i64 0, .int .i64 0]) 2 16 Try.underlying51 hi hz0 hz1 hz2 rfl (by decide) (.slice Av k cv) k _ rfl HOW2.out _ _ 1 1 (ptc (x1, x2)) rfl HRN.out (by simp [ptc, Value.oneCell']) (by unfold maxLen; omega) (by omega) HSZ2.out ?_
      intro v1 w3 hown1 hg1 _
      refine hK.out _ _ (by exact hHeld.grown hg1 (fun j hj => .inl (by rw [HQS.out]; simpa using hj))) (fun hHeldN => ?_)
      clear hK K hHeld
      have hHeld := hHeldN
      clear hHeldN
      have HOW3 := hide (own_snoc hown1)
      clear hown1 hg1
      try simp only [List.getElem_toArray, List.getElem_cons_succ, List.getElem_cons_zero, Act.put, List.setIfInBounds_toArray, List.set_cons_zero, List.set_cons_succ]
      refine wpAnyH_take (i := 16) (v := ?_) rfl (by kernel_rfl) (by kernel_rfl) (by kernel_rfl) (fun _ _ _ h => h) (Or.inl ⟨by rfl, ?_⟩) (by assumption) ?_
      rotate_left
      · (intro w hSw; (try dsimp only at hSw); go_simp; try with_reducible rfl)
      try simp only [List.getElem_toArray, List.getElem_cons_succ, List.getElem_cons_zero, Act.put, List.setIfInBounds_toArray, List.set_cons_zero, List.set_cons_succ]
      refine wpAnyH_done (by kernel_rfl) ?_ _
      have HO3 := hide (HIN.out _ hHeld)
      go_wp2_with fail
      go_roundw
      case rel => exact ⟨k + 1, by omega, by go_num, hide (by rw [HTK.out]; exact HOW3.out), HO3, hide (HIB.out _ hHeld)⟩
      case measure => simp [intOf]; omega
    · have hlt' : ¬ (k : Int) < nm := by omega
      obtain rfl : k = nm := by omega
      have HM := hide (RdS.of_own (N := []) ptc_len (by omega) how.out (by simp)).1
      obtain ⟨Av0, cv0, rfl, _, _⟩ := own_form how.out
      rw [HNM.out, List.take_length, ← HNM.out] at HM
      have HO1s := ho
      clear how ho hlt'
      go_wp2_with fail
      obtain ⟨w1, hw1⟩ : ∃ w1, w1 = wr := ⟨_, rfl⟩
      have HOW0 := hide (show (wr.alloc (.cells #[] 102)).ownsRow w1.heap.size 102 3 (.slice (some ⟨wr.heap.size, 0, none⟩) 0 0) 0 (([] : List Rt).flatMap rtC) from by rw [hw1]; exact ⟨rfl, .inr ⟨wr.heap.size, 0, #[], rfl, Nat.le_refl _, heap_alloc_new wr _, Nat.le_refl _, Nat.zero_le _, rfl, rfl⟩⟩)
      have HO0 := hide (show Only [] w1 (wr.alloc (.cells #[] 102)) from by rw [hw1]; exact (Only.refl [] wr).alloc _)
      rw [← hw1] at HO1s HM HB
      clear hw1
      replace HR := hide (HR.out.only HO1s.out (by simp))
      go_loopw [7, 6] (fun i v wr => ∃ (k : Nat) (L : List Rt), L.length = k ∧ k ≤ n ∧ i = .int .i64 k ∧ Hid (wr.ownsRow w1.heap.size 102 3 v k (L.flatMap rtC)) ∧ Hid (∀ r ∈ L, RdS 3 lgc wr v.ownBlock.toList r.2.1 r.2.2) ∧ Hid (L.map rkey = (rs.take k).map rkey) ∧ Hid (Only [] w1 wr)) (fun i _ _ => n - (intOf i).toNat)
      case atStart => exact ⟨0, [], rfl, Nat.zero_le _, rfl, HOW0, hide (fun _ h => by cases h), hide rfl, HO0⟩
      case round =>
        obtain ⟨k, L, hLk, hk, rfl, how, hL, hLm, ho⟩ := hrel
        have k1 := (HB.out.only ho.out (by simp)).cell 1
        simp at k1
        by_cases hlt : k < n
        · have hlt' : (k : Int) < n := by omega
          obtain ⟨g, o, rfl, _, _⟩ := HR.out.1.addr (by rw [← HN.out]; omega)
          have HCE := hide (show ∀ W, Only [] w1 W → _ from fun W h => rts_cell (HR.out.1.only (w' := W) (S := []) h (by simp)) (show k < rs.length by rw [← HN.out]; exact hlt))
          have HLG := hide (HR.out.2 _ (getD_mem rs zr (show k < rs.length by rw [← HN.out]; exact hlt)))
          have HLL := hide (hll _ (getD_mem rs zr (show k < rs.length by rw [← HN.out]; exact hlt)))
          have HTR := hide (take_succ_getD rs zr (show k < rs.length by rw [← HN.out]; exact hlt))
          generalize rs.getD k zr = p at *
          obtain ⟨⟨s1, s2⟩, lv, l⟩ := p
          simp only at HCE HLG HLL
          have HKY := hide (fun (z : Value) => show [rkey ((s1, s2), z, l)] = [((s1, s2), lv, l)].map rkey from rfl)
          obtain ⟨Al, cl, rfl, _, _⟩ := HLG.out.form
          obtain ⟨nl, hnl⟩ : ∃ n, n = l.length := ⟨_, rfl⟩
          have HNL := hide hnl
          rw [← hnl] at HCE HLL HLG
          have hll0 := HLL.out
          clear hnl
          obtain ⟨Av, cv, rfl, _, _⟩ := own_form how.out
          have HW1 := hide (show ∀ W, Only [] wr W → Only [] w1 W from fun W h => ho.out.trans h)
          go_upto_region 10 with fail
          have HWD := hide (show wr.drew.heap.size = wr.heap.size from rfl)
          refine wp_region_held_drew (S := fun W => Only [] wr W) (by kernel_rfl) (by exact (Only.refl [] wr).drew) (fun hHeld => ?_)
          generalize wr.drew = wd10 at *
          refine wpAnyH_take (i := 0) (v := ?_) rfl (by kernel_rfl) (by kernel_rfl) (by kernel_rfl) (fun _ _ _ h => h) (Or.inl ⟨by rfl, ?_⟩) (by assumption) ?_
          rotate_left
          · (intro w hSw; (try dsimp only at hSw); go_simp; try with_reducible rfl)
          try simp only [List.getElem_toArray, List.getElem_cons_succ, List.getElem_cons_zero, Act.put, List.setIfInBounds_toArray, List.set_cons_zero, List.set_cons_succ]
          refine wpAnyH_take (i := 1) (v := ?_) rfl (by kernel_rfl) (by kernel_rfl) (by kernel_rfl) (fun _ _ _ h => h) (Or.inl ⟨by rfl, ?_⟩) (by assumption) ?_
          rotate_left
          · (intro w hSw; (try dsimp only at hSw); have kk := (HB.out.only (HW1.out _ hSw) (by simp)).cell 1; simp at kk; go_simp; try with_reducible rfl)
          try simp only [List.getElem_toArray, List.getElem_cons_succ, List.getElem_cons_zero, Act.put, List.setIfInBounds_toArray, List.set_cons_zero, List.set_cons_succ]
          refine wpAnyH_take (i := 2) (v := ?_) rfl (by kernel_rfl) (by kernel_rfl) (by kernel_rfl) (fun _ _ _ h => h) (Or.inl ⟨by rfl, ?_⟩) (by assumption) ?_
          rotate_left
          · (intro w hSw; (try dsimp only at hSw); go_simp; try with_reducible rfl)
          try simp only [List.getElem_toArray, List.getElem_cons_succ, List.getElem_cons_zero, Act.put, List.setIfInBounds_toArray, List.set_cons_zero, List.set_cons_succ]
          refine wpAnyH_take (i := 3) (v := ?_) rfl (by kernel_rfl) (by kernel_rfl) (by kernel_rfl) (fun _ _ _ h => h) (Or.inl ⟨by rfl, ?_⟩) (by assumption) ?_
          rotate_left
          · (intro w hSw; (try dsimp only at hSw); go_simp; try with_reducible rfl)
          try simp only [List.getElem_toArray, List.getElem_cons_succ, List.getElem_cons_zero, Act.put, List.setIfInBounds_toArray, List.set_cons_zero, List.set_cons_succ]
          refine wpAnyH_take (i := 4) (v := ?_) rfl (by kernel_rfl) (by kernel_rfl) (by kernel_rfl) (fun _ _ _ h => h) (Or.inl ⟨by rfl, ?_⟩) (by assumption) ?_
          rotate_left
          · (intro w hSw; (try dsimp only at hSw); go_simp; try with_reducible rfl)
          try simp only [List.getElem_toArray, List.getElem_cons_succ, List.getElem_cons_zero, Act.put, List.setIfInBounds_toArray, List.set_cons_zero, List.set_cons_succ]
          refine wpAnyH_take (i := 5) (v := ?_) rfl (by kernel_rfl) (by kernel_rfl) (by kernel_rfl) (fun _ _ _ h => h) (Or.inl ⟨by rfl, ?_⟩) (by assumption) ?_
          rotate_left
          · (intro w hSw; (try dsimp only at hSw); go_simp; try with_reducible rfl)
          try simp only [List.getElem_toArray, List.getElem_cons_succ, List.getElem_cons_zero, Act.put, List.setIfInBounds_toArray, List.set_cons_zero, List.set_cons_succ]
          refine wpAnyH_take (i := 6) (v := ?_) rfl (by kernel_rfl) (by kernel_rfl) (by kernel_rfl) (fun _ _ _ h => h) (Or.inl ⟨by rfl, ?_⟩) (by assumption) ?_
          rotate_left
          · (intro w hSw; (try dsimp only at hSw); have cc := (HCE.out _ (HW1.out _ hSw)).1; go_simp; try with_reducible rfl)
          try simp only [List.getElem_toArray, List.getElem_cons_succ, List.getElem_cons_zero, Act.put, List.setIfInBounds_toArray, List.set_cons_zero, List.set_cons_succ]
          refine wpAnyH_take (i := 7) (v := ?_) rfl (by kernel_rfl) (by kernel_rfl) (by kernel_rfl) (fun _ _ _ h => h) (Or.inl ⟨by rfl, ?_⟩) (by assumption) ?_
          rotate_left
          · (intro w hSw; (try dsimp only at hSw); go_simp; try with_reducible rfl)
          try simp only [List.getElem_toArray, List.getElem_cons_succ, List.getElem_cons_zero, Act.put, List.setIfInBounds_toArray, List.set_cons_zero, List.set_cons_succ]
          refine wpAnyH_take (i := 8) (v := ?_) rfl (by kernel_rfl) (by kernel_rfl) (by kernel_rfl) (fun _ _ _ h => h) (Or.inl ⟨by rfl, ?_⟩) (by assumption) ?_
          rotate_left
          · (intro w hSw; (try dsimp only at hSw); have kk := (HB.out.only (HW1.out _ hSw) (by simp)).cell 1; simp at kk; go_simp; try with_reducible rfl)
          try simp only [List.getElem_toArray, List.getElem_cons_succ, List.getElem_cons_zero, Act.put, List.setIfInBounds_toArray, List.set_cons_zero, List.set_cons_succ]
          refine wpAnyH_take (i := 9) (v := ?_) rfl (by kernel_rfl) (by kernel_rfl) (by kernel_rfl) (fun _ _ _ h => h) (Or.inl ⟨by rfl, ?_⟩) (by assumption) ?_
          rotate_left
          · (intro w hSw; (try dsimp only at hSw); go_simp; try with_reducible rfl)
          try simp only [List.getElem_toArray, List.getElem_cons_succ, List.getElem_cons_zero, Act.put, List.setIfInBounds_toArray, List.set_cons_zero, List.set_cons_succ]
          refine wpAnyH_take (i := 10) (v := ?_) rfl (by kernel_rfl) (by kernel_rfl) (by kernel_rfl) (fun _ _ _ h => h) (Or.inl ⟨by rfl, ?_⟩) (by assumption) ?_
          rotate_left
          · (intro w hSw; (try dsimp only at hSw); go_simp; try with_reducible rfl)
          try simp only [List.getElem_toArray, List.getElem_cons_succ, List.getElem_cons_zero, Act.put, List.setIfInBounds_toArray, List.set_cons_zero, List.set_cons_succ]
          refine wpAnyH_take (i := 11) (v := ?_) rfl (by kernel_rfl) (by kernel_rfl) (by kernel_rfl) (fun _ _ _ h => h) (Or.inl ⟨by rfl, ?_⟩) (by assumption) ?_
          rotate_left
          · (intro w hSw; (try dsimp only at hSw); go_simp; try with_reducible rfl)
          try simp only [List.getElem_toArray, List.getElem_cons_succ, List.getElem_cons_zero, Act.put, List.setIfInBounds_toArray, List.set_cons_zero, List.set_cons_succ]
          refine wpAnyH_take (i := 12) (v := ?_) rfl (by kernel_rfl) (by kernel_rfl) (by kernel_rfl) (fun _ _ _ h => h) (Or.inl ⟨by rfl, ?_⟩) (by assumption) ?_
          rotate_left
          · (intro w hSw; (try dsimp only at hSw); go_simp; try with_reducible rfl)
          try simp only [List.getElem_toArray, List.getElem_cons_succ, List.getElem_cons_zero, Act.put, List.setIfInBounds_toArray, List.set_cons_zero, List.set_cons_succ]
          refine wpAnyH_take (i := 13) (v := ?_) rfl (by kernel_rfl) (by kernel_rfl) (by kernel_rfl) (fun _ _ _ h => h) (Or.inl ⟨by rfl, ?_⟩) (by assumption) ?_
          rotate_left
          · (intro w hSw; (try dsimp only at hSw); have cc := (HCE.out _ (HW1.out _ hSw)).2.1; go_simp; try with_reducible rfl)
          try simp only [List.getElem_toArray, List.getElem_cons_succ, List.getElem_cons_zero, Act.put, List.setIfInBounds_toArray, List.set_cons_zero, List.set_cons_succ]
          refine wpAnyH_take (i := 14) (v := ?_) rfl (by kernel_rfl) (by kernel_rfl) (by kernel_rfl) (fun _ _ _ h => h) (Or.inl ⟨by rfl, ?_⟩) (by assumption) ?_
          rotate_left
          · (intro w hSw; (try dsimp only at hSw); go_simp; try with_reducible rfl)
          try simp only [List.getElem_toArray, List.getElem_cons_succ, List.getElem_cons_zero, Act.put, List.setIfInBounds_toArray, List.set_cons_zero, List.set_cons_succ]
          refine wpAnyH_take (i := 15) (v := ?_) rfl (by kernel_rfl) (by kernel_rfl) (by kernel_rfl) (fun _ _ _ h => h) (Or.inl ⟨by rfl, ?_⟩) (by assumption) ?_
          rotate_left
          · (intro w hSw; (try dsimp only at hSw); go_simp; try with_reducible rfl)
          try simp only [List.getElem_toArray, List.getElem_cons_succ, List.getElem_cons_zero, Act.put, List.setIfInBounds_toArray, List.set_cons_zero, List.set_cons_succ]
          refine wpAnyH_ready (rs := [16]) (by kernel_rfl) (by simp) ?_
          refine (AllReadyH.cons rfl (fun K hK => ?_) AllReadyH.nil)
          go_simp
          refine hK.out _ _ (by exact hHeld.alloc _) (fun hHeldN => ?_)
          clear hK K hHeld
          have hHeld := hHeldN
          clear hHeldN
          try simp only [List.getElem_toArray, List.getElem_cons_succ, List.getElem_cons_zero, Act.put, List.setIfInBounds_toArray, List.set_cons_zero, List.set_cons_succ]
          have HRB := hide (Blk.new wd10 102 #[.int .i64 0, .int .i64 0, .slice none 0 0])
          obtain ⟨R, hR⟩ : ∃ R, R = wd10.heap.size := ⟨_, rfl⟩
          have HRR := hide hR
          have HSV := hide (show (wd10.alloc (.cells #[.int .i64 0, .int .i64 0, .slice none 0 0] 102)).heap.size = R + 1 from by rw [World.size_alloc, hR])
          rw [← hR] at HRB ⊢
          clear hR
          generalize (wd10.alloc (.cells #[.int .i64 0, .int .i64 0, .slice none 0 0] 102)) = w16 at *
          refine wpAnyH_ready (rs := [17]) (by kernel_rfl) (by simp) ?_
          refine (AllReadyH.cons rfl (fun K hK => ?_) AllReadyH.nil)
          rw [if_pos (by rfl)]
          refine wp_store_mid _ _ _ rfl _ _ #[.int .i64 s1, .int .i64 s2, .slice none 0 0] rfl rfl (blk_there HRB.out _ rfl) (by kernel_rfl) (by simp [Value.oneCell']) ?_
          have HRS := hide (show Blk (w16.setCells R 0 [.int .i64 s1, .int .i64 s2, .slice none 0 0]) _ 102 #[.int .i64 s1, .int .i64 s2, .slice none 0 0] from blk_stored HRB.out [.int .i64 s1, .int .i64 s2, .slice none 0 0] rfl)
          refine hK.out _ _ (by exact Only.setCells (.inr (Nat.le_of_eq (by rw [HRR.out, ← HWD.out]))) 0 [.int .i64 s1, .int .i64 s2, .slice none 0 0] hHeld) (fun hHeldN => ?_)
          clear hK K hHeld HRB
          have hHeld := hHeldN
          clear hHeldN
          try simp only [List.getElem_toArray, List.getElem_cons_succ, List.getElem_cons_zero, Act.put, List.setIfInBounds_toArray, List.set_cons_zero, List.set_cons_succ]
          refine wpAnyH_done (by kernel_rfl) ?_ _
          have HRV := hide (show (w16.setCells R 0 [.int .i64 s1, .int .i64 s2, .slice none 0 0]).heap.size ≤ R + 1 from by rw [size_setCells7, HSV.out]; exact Nat.le_refl _)
          generalize (w16.setCells R 0 [.int .i64 s1, .int .i64 s2, .slice none 0 0]) = v1 at *
          have HOWv := hide (own_only how.out hHeld (by simp))
          have HRL := hide (show R = wr.heap.size from by rw [HRR.out, ← HWD.out])
          have HBR := hide (show w1.heap.size ≤ R from by rw [HRL.out]; exact ho.out.size)
          have HQR := hide (show ∀ q, (Value.slice Av k cv).ownBlock = some q → q < R from fun q hq => by rw [HRL.out]; exact own_block_lt7 how.out hq)
          have HLv := hide (show ∀ r ∈ L, RdS 3 lgc v1 (R :: (Value.slice Av k cv).ownBlock.toList) r.2.1 r.2.2 from fun r hr => ((hL.out r hr).more (N' := R :: (Value.slice Av k cv).ownBlock.toList) (fun x hx => by
            rcases List.mem_cons.1 hx with h | h
            · exact .inr (by rw [h, HRL.out]; exact Nat.le_refl _)
            · exact .inl h)).only hHeld (by simp))
          have HO1 := hide (ho.out.trans hHeld)
          clear hHeld HW1 hL how HRR HWD ho HRL
          go_wp2_with fail
          go_loopw [9] (fun i wr => ∃ (q : Nat) (u : Value), q ≤ nl ∧ i = .int .i64 q ∧ Hid (Blk wr R 102 #[.int .i64 s1, .int .i64 s2, u]) ∧ Hid (wr.ownsRow (R + 1) 106 3 u q ((l.take q).flatMap lgc)) ∧ Hid (Only [R] v1 wr)) (fun i _ => nl - (intOf i).toNat)
          case atStart => exact ⟨0, .slice none 0 0, Nat.zero_le _, rfl, HRS, hide (World.ownsRow_nil _ _ _ _), hide (Only.refl _ _)⟩
          case round =>
            obtain ⟨q, u, hq, rfl, hrb, hlow, hv⟩ := hrel
            have HO2 := hide (only_in7 HO1.out hv.out HBR.out)
            have k1 := (HB.out.only HO2.out (by simp)).cell 1
            simp at k1
            have hce := HCE.out _ HO2.out
            obtain ⟨c1, c2, c3⟩ := hce
            have HRB := hide hrb.out
            by_cases hql : q < nl
            · have hql' : (q : Int) < nl := by omega
              obtain ⟨gl, ol, rfl, _, _⟩ := HLG.out.addr (by rw [← HNL.out]; omega)
              have HLC := hide (show ∀ W, Only [] w1 W → _ from fun W h => lgs_cell (HLG.out.only (w' := W) (S := []) h (by simp)) (show q < l.length by rw [← HNL.out]; exact hql))
              have HTK := hide (take_succ_getD l zg (show q < l.length by rw [← HNL.out]; exact hql))
              generalize l.getD q zg = x at *
              obtain ⟨y1, y2, y3⟩ := x
              simp only at HLC
              obtain ⟨d1, d2, d3⟩ := HLC.out _ HO2.out
              obtain ⟨Au, cu, rfl, _, _⟩ := own_form hlow.out
              go_upto_region 15 with fail
              have HXB := hide (Blk.new wr 104 #[.int .i64 y1, .int .i64 y2, .int .i64 y3])
              replace HRB := hide (HRB.out.alloc (.cells #[.int .i64 y1, .int .i64 y2, .int .i64 y3] 104))
              have HLO := hide (World.ownsRow.alloc hlow.out (.cells #[.int .i64 y1, .int .i64 y2, .int .i64 y3] 104))
              have HV2 := hide (hv.out.alloc (.cells #[.int .i64 y1, .int .i64 y2, .int .i64 y3] 104))
              obtain ⟨X, hX⟩ : ∃ X, X = wr.heap.size := ⟨_, rfl⟩
              rw [← hX] at HXB ⊢
              clear hX
              generalize (wr.alloc (.cells #[.int .i64 y1, .int .i64 y2, .int .i64 y3] 104)) = v2 at *
              have r2 := HRB.out.cell 2
              have x0 := HXB.out.cell 0
              have x1' := HXB.out.cell 1
              have x2' := HXB.out.cell 2
              simp at r2 x0 x1' x2'
              have HSZ := hide (show R + 1 ≤ (v2.alloc (.cells #[.int .i64 y1, .int .i64 y2, .int .i64 y3] 106)).heap.size from by rw [World.size_alloc]; have := HRB.out.lt; omega)
              have HLO2 := hide (World.ownsRow.alloc HLO.out (.cells #[.int .i64 y1, .int .i64 y2, .int .i64 y3] 106))
              have HRN := hide (reads_new v2 106 (lgc (y1, y2, y3)) (v2.heap.size + 1) 3 rfl (by omega))
              go_wp2_with (at_builtin; refine wpList_append_any _ rfl (.tmp 80) (.tmp 90) 100 rfl (R + 1) 106 i2 (.agg #[.int .i64 0, .int .i64 0, .int .i64 0]) 3 24 Try.underlying100 hi2 hy0 hy1 hy2 rfl (by decide) _ q _ rfl HLO2.out (v2.heap.size + 1) (some ⟨v2.heap.size, 0, none⟩) 1 1 (lgc (y1, y2, y3)) rfl HRN.out (by simp [lgc, Value.oneCell']) (by unfold maxLen; omega) (by omega) HSZ.out ?_; intro v3 w3 hown1 hg1 _; have HOW3 := hide (own_snoc hown1); have HV3 := hide ((HV2.out.alloc (.cells #[.int .i64 y1, .int .i64 y2, .int .i64 y3] 106)).grown hg1 (fun j hj => .inr (by have := own_block_ge HLO2.out hj; have := HRV.out; omega))); have HRB3 := hide ((HRB.out.alloc (.cells #[.int .i64 y1, .int .i64 y2, .int .i64 y3] 106)).grown hg1 (fun hj => by have := own_block_ge HLO2.out hj.symm; omega)); have r23 := HRB3.out.cell 2; simp at r23; have rf3 := HRB3.out.frozen; clear hown1 hg1; obtain ⟨A3, c3', rfl, _, _⟩ := own_form HOW3.out)
              go_roundw
              case rel => exact ⟨q + 1, _, by omega, by go_num, hide (HRB3.out.set_ 2 _), hide (by rw [HTK.out]; exact own_only HOW3.out (Only.setCell (S := [R]) (Only.refl _ _) (p := ⟨R, 2, none⟩) (.inl (by simp)) _) (by simp)), hide (HV3.out.setCell (p := ⟨R, 2, none⟩) (.inl (by simp)) _)⟩
              case measure => simp [intOf]; omega
            · have hql' : ¬ (q : Int) < nl := by omega
              obtain rfl : q = nl := by omega
              obtain ⟨Au, cu, rfl, _, _⟩ := own_form hlow.out
              have HU := hide (RdS.of_own (N := (Value.slice Av k cv).ownBlock.toList) lgc_len (by omega) hlow.out (fun x hx => by have := HQR.out x (by simpa using hx); omega)).1
              rw [HNL.out, List.take_length] at HU
              rw [← HNL.out] at HU
              have r0 := HRB.out.cell 0
              have r1 := HRB.out.cell 1
              have r2 := HRB.out.cell 2
              simp at r0 r1 r2
              have HOWr := hide (own_only2 HOWv.out hv.out (fun x hx hx2 => by
                obtain rfl : x = R := by simpa using hx
                exact absurd (HQR.out _ hx2) (Nat.lt_irrefl _)))
              have HLr := hide (show ∀ r ∈ L, RdS 3 lgc wr (Value.slice Av k cv).ownBlock.toList r.2.1 r.2.2 from fun r hr => (((HLv.out r hr).only hv.out (by simp)).more (fun x hx => .inl (List.mem_cons_of_mem _ hx))))
              have HOW2 := hide (World.ownsRow.alloc HOWr.out (.cells #[.int .i64 s1, .int .i64 s2, .slice Au q cu] 102))
              have HRN := hide (reads_new wr 102 (rtC ((s1, s2), .slice Au q cu, l)) (wr.heap.size + 1) 3 rfl (by omega))
              have HSZ := hide (show w1.heap.size ≤ (wr.alloc (.cells #[.int .i64 s1, .int .i64 s2, .slice Au q cu] 102)).heap.size from by rw [World.size_alloc]; have := HO2.out.size; omega)
              go_wp2_with (at_builtin; refine wpList_append_any _ rfl (.tmp 93) (.tmp 95) 52 rfl w1.heap.size 102 i1 (.agg #[.int .i64 0, .int .i64 0, .slice none 0 0]) 3 40 Try.underlying52 hi1 hx0 hx1 hx2 rfl (by decide) _ k _ rfl HOW2.out (wr.heap.size + 1) (some ⟨wr.heap.size, 0, none⟩) 1 1 (rtC ((s1, s2), .slice Au q cu, l)) rfl HRN.out (by simp [rtC, Value.oneCell']) (by unfold maxLen; omega) (by omega) HSZ.out ?_; intro v4 w4 hown1 hg1 hob; have HOW4 := hide (own_snoc hown1); have HO4 := hide ((HO2.out.alloc (.cells #[.int .i64 s1, .int .i64 s2, .slice Au q cu] 102)).grown hg1 (fun j hj => .inr (own_block_ge HOW2.out hj))); have HL4 := hide (legs_all (r0 := ((s1, s2), .slice Au q cu, l)) (wA := wr.alloc (.cells #[.int .i64 s1, .int .i64 s2, .slice Au q cu] 102)) (fun r hr => (HLr.out r hr).only ((Only.refl [] wr).alloc _) (by simp)) (HU.out.only ((Only.refl [] wr).alloc _) (by simp)) hg1 hob); clear hown1 hg1 hob)
              go_roundw
              case rel => exact ⟨k + 1, L ++ [((s1, s2), .slice Au q cu, l)], by rw [List.length_append, hLk]; rfl, by omega, by go_num, HOW4, HL4, hide (by rw [List.map_append, hLm.out, HTR.out, List.map_append]; exact congrArg _ (HKY.out _)), HO4⟩
              case measure => simp [intOf]; omega
        · have hlt' : ¬ (k : Int) < n := by omega
          obtain rfl : k = n := by omega
          have HRV := hide (RdS.of_own (N := []) rtC_len (by omega) how.out (by simp)).1
          have HRL := hide (fun r hr => (hL.out r hr).more (N' := []) (by simp))
          have HEQ := hide hLm.out
          rw [HN.out, List.take_length] at HEQ
          have HMM := hide (HM.out.only ho.out (by simp))
          obtain ⟨Av, cv, rfl, _, _⟩ := own_form how.out
          go_wp2_with fail
          go_ret2
          exact ⟨_, _, L, rfl, HMM.out, ⟨HRV.out, HRL.out⟩, HEQ.out, HO1s.out.trans ho.out⟩
end
end Go.Proofs.Yteoifokmbkpbnaa

/-
  Walks and plain words (texts Wi). No condition beyond those that each theorem states.
-/
import Derived.Test.YteoifokmbkpbnaaDoorQ24
namespace Go.Proofs.YteoifokmbkpbnaaDoor
section
open Go.RowKit Go.Deep

abbrev msg0 : Array Value := #[.int .i64 0, .int .u32 0, .int .u32 0, .int .u64 0, .string ⟨#[]⟩, .string ⟨#[]⟩, .string ⟨#[]⟩, .string ⟨#[]⟩, .string ⟨#[]⟩, .string ⟨#[]⟩, .string ⟨#[]⟩, .string ⟨#[]⟩, .string ⟨#[]⟩]

theorem headV_of (c : UInt8) (r : List UInt8) (h : c = 1 ∨ c = 2 ∨ c = 3 ∨ c = 4) : headV (c :: r) = if (zeroV 3 r).1 = 0 then (0, (c.toNat : Int), (zeroV 3 r).2) else ((zeroV 3 r).1, 0, []) := if_pos h
set_option maxRecDepth 100000 in
set_option maxHeartbeats 6400000 in
theorem ReadR_nil (w : World) (A : Option Addr) (cap : Nat) : Calls Tryd.prog 46 #[.slice A 0 cap] w (ReadPostW (readV []) w) := by
  have HRB := hide ((Blk.new w 78 (zeroM 0)).alloc (.cells (zeroM 0) 78))
  have HO := hide (((Only.refl [] w).alloc (.cells (zeroM 0) 78)).alloc (.cells (zeroM 0) 78))
  unfold zeroM at HRB HO
  have HV := hide (show readV [] = (4, zeroM 0) from read_head (l := []) (by decide))
  go_enter Tryd.func46, Tryd.ntmps46
  go_wp2_with fail
  refine bodyPost_ret (results_cell_two rfl _ _ w.heap.size 78 _ (0, 0) _ rfl HRB.out Tryd.underlying78 rfl (by kernel_rfl)) rfl ?_
  exact readw HV.out HO.out

theorem slice_any {P : Program} (t e : TypeId) (A : Option Addr) (n cap l h : Nat) (i j : Int) (hi : i = l) (hj : j = h) (hu : P.underlying t = some (.slice e)) {ti : TypeInfo} (hsz : P.info? e = some ti) (h1 : ti.size = 1) (hl : l ≤ h) (hh : h ≤ cap) (W : World) :
    (Instr.sliceAt t (.slice A n cap) (some (.int .i64 i)) (some (.int .i64 j)) none).run P W = .ok (.slice (if cap = l then A else A.map (·.add l)) (h - l) (cap - l)) W := by
  subst hi hj
  simp [Instr.sliceAt, Instr.slice, Instr.sliceBounds, Instr.sliceBound, run_underlying hu, go_sem, asIntOf, sizeOf, typeInfo, hsz, h1]
  rw [if_pos hh, if_pos hl]
theorem own_there (w : World) (e : TypeId) (g : Nat) (h : g = w.heap.size) : (w.alloc (.cells #[] e)).ownsRow g e 1 (.slice (some ⟨g, 0, none⟩) 0 0) 0 [] := by subst h; exact own_empty w e _ (Nat.le_refl _)
theorem shape_sizes {k : Nat} (h1 : 1 ≤ k) (h4 : k ≤ 4) : (shapeV k).1.length ≤ 2 ∧ (shapeV k).2 ≤ 5 ∧ 1 ≤ (shapeV k).1.length ∧ 1 ≤ (shapeV k).2 ∧ ∀ i, i < (shapeV k).1.length → 1 ≤ (shapeV k).1.getD i 0 ∧ (shapeV k).1.getD i 0 ≤ 8 := by
  obtain rfl | rfl | rfl | rfl : k = 1 ∨ k = 2 ∨ k = 3 ∨ k = 4 := by omega
  all_goals decide
theorem text_short {q : List UInt8} (h : q.length < 2) : (textV q).1 = 4 := by unfold textV; rw [if_pos h]
theorem text_over {q : List UInt8} (h : ¬ q.length < 2) (h2 : (q.drop 2).length < lowV (q.take 2)) : (textV q).1 = 4 := by unfold textV; rw [if_neg h, if_pos h2]
theorem text_bad {q : List UInt8} (h : ¬ q.length < 2) (h2 : ¬ (q.drop 2).length < lowV (q.take 2)) (h3 : (parseV ⟨((q.drop 2).take (lowV (q.take 2))).toArray⟩).isSome = false) : (textV q).1 = 3 := by
  unfold textV
  rw [if_neg h, if_neg h2, if_neg]
  unfold fitW
  rw [h3]
  simp
theorem text_good {q : List UInt8} (h : ¬ q.length < 2) (h2 : ¬ (q.drop 2).length < lowV (q.take 2)) (h3 : (parseV ⟨((q.drop 2).take (lowV (q.take 2))).toArray⟩).isSome = true) :
    textV q = (0, ⟨((q.drop 2).take (lowV (q.take 2))).toArray⟩, (q.drop 2).drop (lowV (q.take 2))) := by
  unfold textV
  rw [if_neg h, if_neg h2, if_pos]
  unfold fitW
  rw [h3, Bool.and_true]
  refine decide_eq_true ?_
  rw [size_toArray_, List.length_take]
  have h4 := lowV_lt (q.take 2)
  rw [List.length_take, Nat.min_eq_left (by omega)] at h4
  omega
theorem snoc_getD (ns : List Nat) (x : Nat) (f : Nat → Nat) (h : ∀ i, i < ns.length → ns.getD i 0 < f i) (hx : x < f ns.length) : ∀ i, i < (ns ++ [x]).length → (ns ++ [x]).getD i 0 < f i := by
  intro i hi
  rw [List.length_append, List.length_singleton] at hi
  by_cases e : i = ns.length
  · subst e; simpa using hx
  · have hlt : i < ns.length := by omega
    have := h i hlt
    rw [List.getD_eq_getElem?_getD, List.getElem?_append_left hlt, ← List.getD_eq_getElem?_getD]
    exact this

set_option maxRecDepth 100000 in
set_option maxHeartbeats 25600000 in
theorem ReadR_k (w : World) (bv : Value) (l : List UInt8) (hl : l.length ≤ 1099511627776) (c : UInt8) (hcc : c = 1 ∨ c = 2 ∨ c = 3 ∨ c = 4) (k : Nat) (hkc : k = c.toNat) (hk1 : 1 ≤ k) (hk4 : k ≤ 4) (r : List UInt8) (hlr : l = c :: r) (hb : Rd w [] bv (ints .u8 (byts l))) :
    Calls Tryd.prog 46 #[bv] w (ReadPostW (readV l) w) := by
  obtain ⟨A, cap, rfl, hc1, hc2⟩ := hb.formb
  obtain ⟨G, O, rfl, hG, h0⟩ : ∃ G O, A = some ⟨G, O, none⟩ ∧ G < w.heap.size ∧ w.cell? ⟨G, O, none⟩ = some (.int .u8 k) := by
    subst hlr; subst hkc
    obtain ⟨g, o, h, _, h2, h3⟩ := hb.at_.2.2.2 0 (.int .u8 c.toNat) rfl
    exact ⟨g, o, h, h2, h3⟩
  obtain ⟨n, hn⟩ : ∃ n, n = l.length := ⟨_, rfl⟩
  have HN := hide hn
  have hpos : (0 : Int) < n := by rw [hn, hlr]; simp only [List.length_cons]; omega
  have hposN : 0 < n := by omega
  have hnmax : n ≤ 1099511627776 := by omega
  have hzz : ((n : Int) == 0) = false := by rw [beq_eq_false_iff_ne]; omega
  have HB := hide hb
  rw [← hn] at HB hc1 ⊢
  have HRB := hide ((Blk.new w 78 msg0).alloc (.cells msg0 78))
  have HO := hide (((Only.refl [] w).alloc (.cells msg0 78)).alloc (.cells msg0 78))
  have HZB := hide (Blk.new (w.alloc (.cells msg0 78)) 78 msg0)
  rw [World.size_alloc] at HZB
  have d0 := (cell_only HO.out hG (by simp)).trans h0
  unfold maxLen at hc2
  obtain ⟨iu, hiu, hu0, hu1, hu2⟩ := info_parts (show (Tryd.prog.info? 56).map (fun i => (i.zero, i.size, i.bytes)) = some (some (.int .u64 0), 1, 8) by kernel_rfl)
  obtain ⟨ib, hib, _, hib1, _⟩ := info_parts (show (Tryd.prog.info? 5).map (fun i => (i.zero, i.size, i.bytes)) = some (some (.int .u8 0), 1, 1) by kernel_rfl)
  obtain ⟨is, his, hs0, hs1, hs2⟩ := info_parts (show (Tryd.prog.info? 9).map (fun i => (i.zero, i.size, i.bytes)) = some (some (.string ByteArray.empty), 1, 16) by kernel_rfl)
  clear hb hn hl
  have hkI1 : ¬ (k : Int) < 1 := by omega
  have hkI4 : ¬ (4 : Int) < k := by omega
  have HLR := hide hlr
  have HKC := hide hkc
  clear hlr hkc
  go_enter Tryd.func46, Tryd.ntmps46
  go_wp2_with fail
  generalize ((w.alloc (.cells msg0 78)).alloc (.cells msg0 78)) = W at *
  have HRD := hide (HB.out.only HO.out (by simp))
  have r0 := HRB.out.cell 0; have r1 := HRB.out.cell 1; have r2 := HRB.out.cell 2; have r3 := HRB.out.cell 3; have r4 := HRB.out.cell 4; have r5 := HRB.out.cell 5; have r6 := HRB.out.cell 6; have r7 := HRB.out.cell 7; have r8 := HRB.out.cell 8; have r9 := HRB.out.cell 9; have r10 := HRB.out.cell 10; have r11 := HRB.out.cell 11; have r12 := HRB.out.cell 12; simp at r0 r1 r2 r3 r4 r5 r6 r7 r8 r9 r10 r11 r12; have rf := HRB.out.frozen
  have z0 := HZB.out.cell 0; have z1 := HZB.out.cell 1; have z2 := HZB.out.cell 2; have z3 := HZB.out.cell 3; have z4 := HZB.out.cell 4; have z5 := HZB.out.cell 5; have z6 := HZB.out.cell 6; have z7 := HZB.out.cell 7; have z8 := HZB.out.cell 8; have z9 := HZB.out.cell 9; have z10 := HZB.out.cell 10; have z11 := HZB.out.cell 11; have z12 := HZB.out.cell 12; simp at z0 z1 z2 z3 z4 z5 z6 z7 z8 z9 z10 z11 z12
  have HH := hide (show headV l = if (zeroV 3 r).1 = 0 then (0, (k : Int), (zeroV 3 r).2) else ((zeroV 3 r).1, 0, []) by rw [HLR.out, HKC.out]; exact headV_of c r hcc)
  have HZ0 := hide (show zeroV 3 r = zeroV (4 - 1) (l.drop 1) by rw [HLR.out]; rfl)
  clear HLR HKC hcc
  go_loopw [6] (fun i wr => ∃ j : Nat, 1 ≤ j ∧ j ≤ 4 ∧ j ≤ n ∧ i = .int .i64 j ∧ Hid (zeroV 3 r = zeroV (4 - j) (l.drop j)) ∧ Hid (wr = W)) (fun i _ => 4 - (intOf i).toNat)
  case atStart => exact ⟨1, by omega, by omega, by omega, rfl, HZ0, hide rfl⟩
  case round =>
    obtain ⟨j, hj1, hj, hjn0, rfl, HZ, HW⟩ := hrel
    obtain rfl := HW.out
    by_cases hlt : j < 4
    · have hltI : (j : Int) < 4 := by omega
      obtain ⟨m, hm⟩ : ∃ m, 4 - j = m + 1 := ⟨3 - j, by omega⟩
      have HZ := hide (show zeroV 3 r = zeroV (m + 1) (l.drop j) by rw [HZ.out, hm])
      by_cases hjn : n ≤ j
      · have hI : (n : Int) ≤ j := by omega
        have HV2 := hide (show readV l = (4, zeroM 0) by
          have e : headV l = (4, 0, []) := by rw [HH.out, HZ.out, List.drop_of_length_le (by have := HN.out; omega)]; rfl
          rw [read_head (by rw [e]; decide), e])
        go_wp2_with fail
        refine bodyPost_ret (results_cell_two rfl _ _ w.heap.size 78 _ (0, 0) _ rfl (set13 HRB.out (.int .i64 0) (.int .u32 0) (.int .u32 0) (.int .u64 0) (.string ⟨#[]⟩) (.string ⟨#[]⟩) (.string ⟨#[]⟩) (.string ⟨#[]⟩) (.string ⟨#[]⟩) (.string ⟨#[]⟩) (.string ⟨#[]⟩) (.string ⟨#[]⟩) (.string ⟨#[]⟩)) Tryd.underlying78 rfl (by kernel_rfl)) rfl ?_
        exact readw HV2.out (only13 HO.out (.inr (Nat.le_refl _)) (.int .i64 0) (.int .u32 0) (.int .u32 0) (.int .u64 0) (.string ⟨#[]⟩) (.string ⟨#[]⟩) (.string ⟨#[]⟩) (.string ⟨#[]⟩) (.string ⟨#[]⟩) (.string ⟨#[]⟩) (.string ⟨#[]⟩) (.string ⟨#[]⟩) (.string ⟨#[]⟩))
      · have hI : ¬ (n : Int) ≤ j := by omega
        have hjl : j < l.length := by have := HN.out; omega
        have hjnI : (j : Int) < n := by omega
        have HD := hide (show l.drop j = l.getD j 0 :: l.drop (j + 1) by rw [List.drop_eq_getElem_cons hjl]; simp [List.getElem?_eq_getElem hjl])
        obtain ⟨g2, o2, hA, _, hg, hcell⟩ := HRD.out.at_.2.2.2 j (.int .u8 (l.getD j 0).toNat) (ints_get (byts_get (by simp [List.getElem?_eq_getElem hjl])))
        cases hA
        by_cases hb : l.getD j 0 = 0
        · have hb0 : ((l.getD j 0).toNat : Int) = 0 := by rw [hb]; rfl
          rw [hb0] at hcell
          have HZ2 := hide (show zeroV 3 r = zeroV (4 - (j + 1)) (l.drop (j + 1)) by rw [HZ.out, HD.out, show 4 - (j + 1) = m by omega]; exact if_pos hb)
          clear hb hjl
          go_wp2_with fail
          go_roundw
          case rel => exact ⟨j + 1, by omega, by omega, by omega, by go_num, HZ2, (by first | exact hide trivial | exact hide rfl)⟩
          case measure => simp [intOf]; omega
        · have hbb : (((l.getD j 0).toNat : Int) != 0) = true := by
            rw [bne_iff_ne]
            intro h
            exact hb ((byte_is _ 0 (by decide)).2 h)
          have HV2 := hide (show readV l = (3, zeroM 0) by
            have e : headV l = (3, 0, []) := by rw [HH.out, HZ.out, HD.out, show zeroV (m + 1) (l.getD j 0 :: l.drop (j + 1)) = (3, []) from if_neg hb]; rfl
            rw [read_head (by rw [e]; decide), e])
          clear hb hjl HD
          generalize l.getD j 0 = b at *
          go_wp2_with fail
          refine bodyPost_ret (results_cell_two rfl _ _ w.heap.size 78 _ (0, 0) _ rfl (set13 HRB.out (.int .i64 0) (.int .u32 0) (.int .u32 0) (.int .u64 0) (.string ⟨#[]⟩) (.string ⟨#[]⟩) (.string ⟨#[]⟩) (.string ⟨#[]⟩) (.string ⟨#[]⟩) (.string ⟨#[]⟩) (.string ⟨#[]⟩) (.string ⟨#[]⟩) (.string ⟨#[]⟩)) Tryd.underlying78 rfl (by kernel_rfl)) rfl ?_
          exact readw HV2.out (only13 HO.out (.inr (Nat.le_refl _)) (.int .i64 0) (.int .u32 0) (.int .u32 0) (.int .u64 0) (.string ⟨#[]⟩) (.string ⟨#[]⟩) (.string ⟨#[]⟩) (.string ⟨#[]⟩) (.string ⟨#[]⟩) (.string ⟨#[]⟩) (.string ⟨#[]⟩) (.string ⟨#[]⟩) (.string ⟨#[]⟩))
    · have hge : ¬ (j : Int) < 4 := by omega
      have HHD := hide (show headV l = (0, (k : Int), l.drop 4) by
        have hj4 : j = 4 := (by omega)
        rw [HH.out, HZ.out, hj4]; rfl)
      have h4n : 4 ≤ n := by omega
      have HST0 := hide (stage_start HHD.out)
      clear HZ HH hlt HHD
      go_upto_region 19 with fail
      generalize hW : ((((((((wr.alloc (.cells #[] 3)).alloc (.cells #[.int .i64 4] 3)).alloc (.cells #[.int .i64 4, .int .i64 4] 3)).alloc (.cells #[.int .i64 4] 3)).alloc (.cells #[.int .i64 4, .int .i64 8] 3)).alloc (.cells #[.slice (some ⟨wr.heap.size, 0, none⟩) 0 0, .slice (some ⟨wr.heap.size + 1, 0, none⟩) 1 1, .slice (some ⟨wr.heap.size + 1 + 1, 0, none⟩) 2 2, .slice (some ⟨wr.heap.size + 1 + 1 + 1, 0, none⟩) 1 1, .slice (some ⟨wr.heap.size + 1 + 1 + 1 + 1, 0, none⟩) 2 2] 104)).alloc (.cells #[.int .i64 0, .int .i64 5, .int .i64 4, .int .i64 2, .int .i64 1] 3)).alloc (.cells #[] 56)) = wq
      have HW := hide hW
      clear hW
      have hb1 : Blk wq (wr.heap.size + 1) 3 #[.int .i64 4] := by rw [← HW.out]; exact (((((((blk_new' (by simp only [World.size_alloc])).alloc _).alloc _).alloc _).alloc _).alloc _).alloc _)
      have hb2 : Blk wq (wr.heap.size + 1 + 1) 3 #[.int .i64 4, .int .i64 4] := by rw [← HW.out]; exact ((((((blk_new' (by simp only [World.size_alloc])).alloc _).alloc _).alloc _).alloc _).alloc _)
      have hb3 : Blk wq (wr.heap.size + 1 + 1 + 1) 3 #[.int .i64 4] := by rw [← HW.out]; exact (((((blk_new' (by simp only [World.size_alloc])).alloc _).alloc _).alloc _).alloc _)
      have hb4 : Blk wq (wr.heap.size + 1 + 1 + 1 + 1) 3 #[.int .i64 4, .int .i64 8] := by rw [← HW.out]; exact ((((blk_new' (by simp only [World.size_alloc])).alloc _).alloc _).alloc _)
      have hb5 : Blk wq (wr.heap.size + 1 + 1 + 1 + 1 + 1) 104 #[.slice (some ⟨wr.heap.size, 0, none⟩) 0 0, .slice (some ⟨wr.heap.size + 1, 0, none⟩) 1 1, .slice (some ⟨wr.heap.size + 1 + 1, 0, none⟩) 2 2, .slice (some ⟨wr.heap.size + 1 + 1 + 1, 0, none⟩) 1 1, .slice (some ⟨wr.heap.size + 1 + 1 + 1 + 1, 0, none⟩) 2 2] := by rw [← HW.out]; exact (((blk_new' (by simp only [World.size_alloc])).alloc _).alloc _)
      have hb6 : Blk wq (wr.heap.size + 1 + 1 + 1 + 1 + 1 + 1) 3 #[.int .i64 0, .int .i64 5, .int .i64 4, .int .i64 2, .int .i64 1] := by rw [← HW.out]; exact ((blk_new' (by simp only [World.size_alloc])).alloc _)
      have HON := hide (show Only [] w wq from by rw [← HW.out]; repeat (first | exact HO.out | apply Only.alloc))
      have HOWN := hide (show wq.ownsRow (wr.heap.size + 1 + 1 + 1 + 1 + 1 + 1 + 1) 56 1 (.slice (some ⟨wr.heap.size + 1 + 1 + 1 + 1 + 1 + 1 + 1, 0, none⟩) 0 0) 0 [] from by rw [← HW.out]; exact own_there _ _ _ (by simp only [World.size_alloc]))
      obtain ⟨szs, B, m, hm, hBl, hcS, hcs, hcn⟩ : ∃ szs B, ∃ m : Nat, (szs, m) = shapeV k ∧ B < wr.heap.size + 1 + 1 + 1 + 1 + 1 + 1 + 1 ∧ wq.cell? ⟨wr.heap.size + 1 + 1 + 1 + 1 + 1, k, none⟩ = some (.slice (some ⟨B, 0, none⟩) szs.length szs.length) ∧ (∀ i, wq.cell? ⟨B, i, none⟩ = (ints .i64 (nats szs))[i]?) ∧ wq.cell? ⟨wr.heap.size + 1 + 1 + 1 + 1 + 1 + 1, k, none⟩ = some (.int .i64 m) := by
        obtain rfl | rfl | rfl | rfl : k = 1 ∨ k = 2 ∨ k = 3 ∨ k = 4 := by omega
        · exact ⟨[4], _, 5, rfl, by omega, (hb5.cell 1).trans rfl, fun i => (hb1.cell i).trans (by simp [ints, nats]), (hb6.cell 1).trans rfl⟩
        · exact ⟨[4, 4], _, 4, rfl, by omega, (hb5.cell 2).trans rfl, fun i => (hb2.cell i).trans (by simp [ints, nats]), (hb6.cell 2).trans rfl⟩
        · exact ⟨[4], _, 2, rfl, by omega, (hb5.cell 3).trans rfl, fun i => (hb3.cell i).trans (by simp [ints, nats]), (hb6.cell 3).trans rfl⟩
        · exact ⟨[4, 8], _, 1, rfl, by omega, (hb5.cell 4).trans rfl, fun i => (hb4.cell i).trans (by simp [ints, nats]), (hb6.cell 4).trans rfl⟩
      clear hb1 hb2 hb3 hb4 hb5 hb6
      have HOQ := hide (show Only [] wr wq from by rw [← HW.out]; repeat (first | exact Only.refl _ _ | apply Only.alloc))
      have HRQ := hide ((HRD.out.more (N' := [wr.heap.size + 1 + 1 + 1 + 1 + 1 + 1 + 1]) (by intro x hx; right; rw [List.mem_singleton.1 hx]; omega)).only HOQ.out (by simp))
      have HRBq := hide (HRB.out.only HOQ.out (by simp))
      have HZBq := hide (HZB.out.only HOQ.out (by simp))
      have hB7 : B < wr.heap.size + 1 + 1 + 1 + 1 + 1 + 1 + 1 := hBl
      have hS7 : wr.heap.size + 1 + 1 + 1 + 1 + 1 + 1 + 1 + 1 = wq.heap.size := by rw [← HW.out]; simp only [World.size_alloc]
      have HGS := hide (show w.heap.size + 1 < wr.heap.size from HZB.out.lt)
      clear HW HRB HZB HO HRD d0 r0 r1 r2 r3 r4 r5 r6 r7 r8 r9 r10 r11 r12 rf z0 z1 z2 z3 z4 z5 z6 z7 z8 z9 z10 z11 z12 HOQ
      have HS1 := hide (show szs = (shapeV k).1 by rw [← hm])
      have HS2 := hide (show m = (shapeV k).2 by rw [← hm])
      have hsh := shape_sizes hk1 hk4
      rw [← HS1.out, ← HS2.out] at hsh
      obtain ⟨hsz2, hm5, hsz1, hm1, hszb⟩ := hsh
      have HSZB := hide hszb
      clear hm hszb hBl
      generalize hq7 : wr.heap.size + 1 + 1 + 1 + 1 + 1 + 1 + 1 = S7 at *
      generalize hq6 : wr.heap.size + 1 + 1 + 1 + 1 + 1 + 1 = S6 at *
      generalize hq5 : wr.heap.size + 1 + 1 + 1 + 1 + 1 = S5 at *
      go_loopw [9, 10, 11] (fun at_ nv i wr => ∃ (j a : Nat) (ns : List Nat), j ≤ szs.length ∧ a ≤ n ∧ at_ = .int .i64 (a : Nat) ∧ i = .int .i64 j ∧ Hid (ns.length = j) ∧ Hid (wr.ownsRow S7 56 1 nv j (ints .u64 (nats ns))) ∧ Hid (Only [S7] wq wr) ∧ Hid (readV l = stageV k ns [] (l.drop a)) ∧ Hid (∀ i, i < ns.length → ns.getD i 0 < 256 ^ szs.getD i 0)) (fun _ _ i _ => 3 - (intOf i).toNat)
      case atStart => exact ⟨0, 4, [], Nat.zero_le _, h4n, rfl, rfl, hide rfl, HOWN, hide (Only.refl _ _), HST0, hide (by intro i hi; simp at hi)⟩
      case round =>
        obtain ⟨j, a, ns, hj, han, rfl, rfl, HNL, how, ho, HST, HNB⟩ := hrel
        obtain ⟨An, cn, rfl, _, _⟩ := own_form how.out
        have c5 := (cell_only ho.out (a := ⟨S5, k, none⟩) (by simp only; omega) (by simp; omega)).trans hcS
        have hkI5 : (k : Int) < 5 := by omega
        by_cases hlt : j < szs.length
        · have hltI : (j : Int) < szs.length := by omega
          have cB := (cell_only ho.out (a := ⟨B, j, none⟩) (by simp only; omega) (by simp; omega)).trans ((hcs j).trans (ints_get (nats_get (show szs[j]? = some (szs.getD j 0) by simp [List.getElem?_eq_getElem hlt]))))
          have hs8 := (HSZB.out j hlt).2
          have hs1 := (HSZB.out j hlt).1
          have HSN := hide (stage_num hk1 hk4 (ns := ns) (by rw [HNL.out, ← HS1.out]; exact hlt) (l.drop a))
          rw [← HS1.out, HNL.out] at HSN
          have HLT := hide (lowV_lt ((l.drop a).take (szs.getD j 0)))
          have HSG := hide (fun x h => snoc_getD ns x (fun i => 256 ^ szs.getD i 0) HNB.out h)
          rw [HNL.out] at HSG
          obtain ⟨z, hz⟩ : ∃ z, z = szs.getD j 0 := ⟨_, rfl⟩
          simp only [← hz] at HSN hs8 hs1 cB HLT HSG
          clear hz
          have HRB := hide (HRBq.out.only ho.out (by simp; have := HGS.out; omega))
          have HZB := hide (HZBq.out.only ho.out (by simp; have := HGS.out; omega))
          by_cases hov : n < a + z
          · have hovI : (n : Int) < (a : Int) + z := by omega
            have HV2 := hide (show readV l = (4, zeroM 0) by rw [HST.out, HSN.out, if_pos (by rw [List.length_drop]; have := HN.out; omega)])
            have r0 := HRB.out.cell 0; have r1 := HRB.out.cell 1; have r2 := HRB.out.cell 2; have r3 := HRB.out.cell 3; have r4 := HRB.out.cell 4; have r5 := HRB.out.cell 5; have r6 := HRB.out.cell 6; have r7 := HRB.out.cell 7; have r8 := HRB.out.cell 8; have r9 := HRB.out.cell 9; have r10 := HRB.out.cell 10; have r11 := HRB.out.cell 11; have r12 := HRB.out.cell 12; simp at r0 r1 r2 r3 r4 r5 r6 r7 r8 r9 r10 r11 r12; have rf := HRB.out.frozen
            have z0 := HZB.out.cell 0; have z1 := HZB.out.cell 1; have z2 := HZB.out.cell 2; have z3 := HZB.out.cell 3; have z4 := HZB.out.cell 4; have z5 := HZB.out.cell 5; have z6 := HZB.out.cell 6; have z7 := HZB.out.cell 7; have z8 := HZB.out.cell 8; have z9 := HZB.out.cell 9; have z10 := HZB.out.cell 10; have z11 := HZB.out.cell 11; have z12 := HZB.out.cell 12; simp at z0 z1 z2 z3 z4 z5 z6 z7 z8 z9 z10 z11 z12
            go_wp2_with fail
            refine bodyPost_ret (results_cell_two rfl _ _ w.heap.size 78 _ (0, 0) _ rfl (set13 HRB.out (.int .i64 0) (.int .u32 0) (.int .u32 0) (.int .u64 0) (.string ⟨#[]⟩) (.string ⟨#[]⟩) (.string ⟨#[]⟩) (.string ⟨#[]⟩) (.string ⟨#[]⟩) (.string ⟨#[]⟩) (.string ⟨#[]⟩) (.string ⟨#[]⟩) (.string ⟨#[]⟩)) Tryd.underlying78 rfl (by kernel_rfl)) rfl ?_
            exact readw HV2.out (only13 (((HON.out.mono (S' := [S7]) (by simp)).trans ho.out).mono (by simp; have := HGS.out; omega)) (.inr (Nat.le_refl _)) (.int .i64 0) (.int .u32 0) (.int .u32 0) (.int .u64 0) (.string ⟨#[]⟩) (.string ⟨#[]⟩) (.string ⟨#[]⟩) (.string ⟨#[]⟩) (.string ⟨#[]⟩) (.string ⟨#[]⟩) (.string ⟨#[]⟩) (.string ⟨#[]⟩) (.string ⟨#[]⟩))
          · have hovI : ¬ (n : Int) < (a : Int) + z := by omega
            have hqzI : (a : Int) ≤ (a : Int) + z := by omega
            have hqcI : (a : Int) + z ≤ cap := by omega
            have hqnI : (a : Int) + z ≤ n := by omega
            have hq0 : (0 : Int) ≤ a := by omega
            have hqc : ¬ (a : Int) = cap := by omega
            have hqc2 : ¬ a = cap := by omega
            have htn : ((a : Int) + z).toNat = a + z := by omega
            have HST2 := hide (show readV l = stageV k (ns ++ [lowV ((l.drop a).take z)]) [] (l.drop (a + z)) by rw [HST.out, HSN.out, if_neg (by rw [List.length_drop]; have := HN.out; omega), List.drop_drop])
            have HR := hide (HRQ.out.only ho.out (by simp))
            have HSB := hide (show Rd wr [S7] (.slice (some ⟨G, O + a, none⟩) z (cap - a)) (ints .u8 (byts ((l.drop a).take z))) by
              have h := (HR.out.drop_ a (by omega) (by omega)).take z (by omega)
              rw [ints_drop, ints_take] at h
              exact h)
            have HQL := hide (show ((l.drop a).take z).length ≤ 8 by rw [List.length_take]; omega)
            have HQE := hide (show ((l.drop a).take z).length = z by rw [List.length_take, List.length_drop]; have := HN.out; omega)
            have HVL := hide (fun W => value_w W [S7] (.slice (some ⟨G, O + a, none⟩) z (cap - a)) ((l.drop a).take z) HQL.out)
            have HB2 := hide (HSG.out (lowV ((l.drop a).take z)) (by have := HLT.out; rw [HQE.out] at this; exact this))
            generalize lowV ((l.drop a).take z) = x at *
            have HRN := hide (reads_one wr 56 (.int .u64 (x : Nat)) (wr.heap.size + 1) (Nat.lt_succ_self _))
            have HOW2 := hide (World.ownsRow.alloc how.out (.cells #[.int .u64 (x : Nat)] 56))
            have HO2 := hide (ho.out.alloc (.cells #[.int .u64 (x : Nat)] 56))
            have HSZ := hide ho.out.size
            go_wp2_with (first
              | (go_at_call 66; refine (HVL.out _ HSB.out).mono ?_; rintro e w3 ⟨rfl, rfl⟩)
              | (at_builtin; refine wpList_append_any _ rfl (.tmp 79) (.tmp 87) 106 rfl S7 56 iu (.int .u64 0) 1 8 Tryd.underlying106 hiu hu0 hu1 hu2 rfl (by decide) _ j _ rfl HOW2.out _ _ 1 1 [.int .u64 (x : Int)] rfl HRN.out (by simp [Value.oneCell']) (by unfold maxLen; omega) (by omega) (by have := HSZ.out; simp; omega) ?_; intro v1 w3 hown1 hg1 _; have HOW3 := hide hown1; have HO3 := hide (HO2.out.grown hg1 (fun jj hjj => by have := own_block_ge HOW2.out hjj; simp; omega)); clear hown1 hg1))
            go_roundw
            case rel => exact ⟨j + 1, a + z, ns ++ [x], by omega, by omega, by go_num, by go_num, hide (by rw [List.length_append, List.length_singleton, HNL.out]), hide (by rw [← nats_snoc, ← ints_snoc]; exact HOW3.out), HO3, HST2, HB2⟩
            case measure => simp [intOf]; omega
        · have hge : ¬ (j : Int) < szs.length := by omega
          obtain rfl : szs.length = j := by omega
          have HOw := hide (show Only [] w wr from ((HON.out.mono (S' := [S7]) (by simp)).trans ho.out).mono (by simp; have := HGS.out; omega))
          have HRBr := hide (HRBq.out.only ho.out (by simp; have := HGS.out; omega))
          have HZBr := hide (HZBq.out.only ho.out (by simp; have := HGS.out; omega))
          have HRr := hide (((HRQ.out.only ho.out (by simp)).more (N' := []) (by simp)))
          have c6 := (cell_only ho.out (a := ⟨S6, k, none⟩) (by simp only; omega) (by simp; omega)).trans hcn
          have hS6 : S6 < wr.heap.size := by have := ho.out.size; omega
          have hS7r : S7 ≤ wr.heap.size := by have := ho.out.size; omega
          have HNL2 := hide (show ns.length = (shapeV k).1.length by rw [HNL.out, HS1.out])
          clear HON ho HRBq HZBq HRQ hcS hcs hcn HNL HSZB
          obtain ⟨wl, rfl⟩ : ∃ wl, wl = wr := ⟨wr, rfl⟩
          go_upto_region 28 with (fail)
          clear c5
          have HOT := hide (show Only [] wl (wl.alloc (.cells #[] 9)) from (Only.refl [] wl).alloc _)
          have HOWT := hide (own_empty wl 9 wl.heap.size (Nat.le_refl _))
          go_loopw [9, 13, 14] (fun at_ tv i wz => ∃ (t b : Nat) (ts : List ByteArray), t ≤ m ∧ b ≤ n ∧ at_ = .int .i64 (b : Nat) ∧ i = .int .i64 t ∧ Hid (ts.length = t) ∧ Hid (wz.ownsRow wl.heap.size 9 1 tv t (strc ts)) ∧ Hid (Only [] wl wz) ∧ Hid (readV l = stageV k ns ts (l.drop b))) (fun _ _ i _ => 6 - (intOf i).toNat)
          case atStart => exact ⟨0, a, [], Nat.zero_le _, han, rfl, rfl, hide rfl, HOWT, HOT, HST⟩
          case round =>
            clear HOWT HOT HST
            obtain ⟨t, b, ts, ht, hbn, rfl, rfl, HTL, HOWT, HOT, HST⟩ := hrel
            obtain ⟨At, ct, rfl, _, _⟩ := own_form HOWT.out
            have d6 := (cell_only HOT.out (a := ⟨S6, k, none⟩) (by simp only; omega) (by simp)).trans c6
            have HRB := hide (HRBr.out.only HOT.out (by simp))
            have HZB := hide (HZBr.out.only HOT.out (by simp))
            have HR := hide (HRr.out.only HOT.out (by simp))
            have HOz := hide (HOw.out.trans HOT.out)
            by_cases hlt : t < m
            · have hltI : (t : Int) < m := by omega
              have HTX := hide (stage_text hk1 hk4 HNL2.out (ts := ts) (by rw [HTL.out, ← HS2.out]; exact hlt) (l.drop b))
              obtain ⟨q, hq⟩ : ∃ q, q = l.drop b := ⟨_, rfl⟩
              have HQL := hide (show q.length = n - b by rw [hq, List.length_drop]; have := HN.out; omega)
              have HQ := hide hq
              rw [← hq] at HTX
              clear hq
              by_cases hov : n < b + 2
              · have hovI : (n : Int) < (b : Int) + 2 := by omega
                have HV2 := hide (show readV l = (4, zeroM 0) by
                  have e := text_short (q := q) (by have := HQL.out; omega)
                  rw [HST.out, ← HQ.out, HTX.out, if_neg (by rw [e]; decide), e])
                have r0 := HRB.out.cell 0; have r1 := HRB.out.cell 1; have r2 := HRB.out.cell 2; have r3 := HRB.out.cell 3; have r4 := HRB.out.cell 4; have r5 := HRB.out.cell 5; have r6 := HRB.out.cell 6; have r7 := HRB.out.cell 7; have r8 := HRB.out.cell 8; have r9 := HRB.out.cell 9; have r10 := HRB.out.cell 10; have r11 := HRB.out.cell 11; have r12 := HRB.out.cell 12; simp at r0 r1 r2 r3 r4 r5 r6 r7 r8 r9 r10 r11 r12; have rf := HRB.out.frozen
                have z0 := HZB.out.cell 0; have z1 := HZB.out.cell 1; have z2 := HZB.out.cell 2; have z3 := HZB.out.cell 3; have z4 := HZB.out.cell 4; have z5 := HZB.out.cell 5; have z6 := HZB.out.cell 6; have z7 := HZB.out.cell 7; have z8 := HZB.out.cell 8; have z9 := HZB.out.cell 9; have z10 := HZB.out.cell 10; have z11 := HZB.out.cell 11; have z12 := HZB.out.cell 12; simp at z0 z1 z2 z3 z4 z5 z6 z7 z8 z9 z10 z11 z12
                go_wp2_with fail
                refine bodyPost_ret (results_cell_two rfl _ _ w.heap.size 78 _ (0, 0) _ rfl (set13 HRB.out (.int .i64 0) (.int .u32 0) (.int .u32 0) (.int .u64 0) (.string ⟨#[]⟩) (.string ⟨#[]⟩) (.string ⟨#[]⟩) (.string ⟨#[]⟩) (.string ⟨#[]⟩) (.string ⟨#[]⟩) (.string ⟨#[]⟩) (.string ⟨#[]⟩) (.string ⟨#[]⟩)) Tryd.underlying78 rfl (by kernel_rfl)) rfl ?_
                exact readw HV2.out (only13 HOz.out (.inr (Nat.le_refl _)) (.int .i64 0) (.int .u32 0) (.int .u32 0) (.int .u64 0) (.string ⟨#[]⟩) (.string ⟨#[]⟩) (.string ⟨#[]⟩) (.string ⟨#[]⟩) (.string ⟨#[]⟩) (.string ⟨#[]⟩) (.string ⟨#[]⟩) (.string ⟨#[]⟩) (.string ⟨#[]⟩))
              · have hovI : ¬ (n : Int) < (b : Int) + 2 := by omega
                have hqzI : (b : Int) ≤ (b : Int) + 2 := by omega
                have hqcI : (b : Int) + 2 ≤ cap := by omega
                have hq0 : (0 : Int) ≤ b := by omega
                have hqc : ¬ (b : Int) = cap := by omega
                have hqc2 : ¬ b = cap := by omega
                have htn : ((b : Int) + 2).toNat = b + 2 := by omega
                have H2 := hide (show ¬ q.length < 2 by have := HQL.out; omega)
                have HSB := hide (show Rd wr [] (.slice (some ⟨G, O + b, none⟩) 2 (cap - b)) (ints .u8 (byts (q.take 2))) by
                  have h := (HR.out.drop_ b (by omega) (by omega)).take 2 (by omega)
                  rw [ints_drop, ints_take, ← HQ.out] at h
                  exact h)
                have HVL := hide (fun W => value_w W [] (.slice (some ⟨G, O + b, none⟩) 2 (cap - b)) (q.take 2) (by rw [List.length_take]; omega))
                obtain ⟨x, hx⟩ : ∃ x, x = lowV (q.take 2) := ⟨_, rfl⟩
                have hx6 : x < 65536 := by rw [hx]; have h := lowV_lt (q.take 2); rw [List.length_take, Nat.min_eq_left (by have := HQL.out; omega)] at h; omega
                have HX := hide hx
                rw [← hx] at HVL
                clear hx
                have hwn : IntKind.i64.wrap (x : Int) = x := by rw [IntKind.wrap_i64]; omega
                by_cases hov2 : n < b + 2 + x
                · have hov2I : (n : Int) < (b : Int) + 2 + x := by omega
                  have HV2 := hide (show readV l = (4, zeroM 0) by
                    have e := text_over H2.out (by rw [← HX.out, List.length_drop]; have := HQL.out; omega)
                    rw [HST.out, ← HQ.out, HTX.out, if_neg (by rw [e]; decide), e])
                  have r0 := HRB.out.cell 0; have r1 := HRB.out.cell 1; have r2 := HRB.out.cell 2; have r3 := HRB.out.cell 3; have r4 := HRB.out.cell 4; have r5 := HRB.out.cell 5; have r6 := HRB.out.cell 6; have r7 := HRB.out.cell 7; have r8 := HRB.out.cell 8; have r9 := HRB.out.cell 9; have r10 := HRB.out.cell 10; have r11 := HRB.out.cell 11; have r12 := HRB.out.cell 12; simp at r0 r1 r2 r3 r4 r5 r6 r7 r8 r9 r10 r11 r12; have rf := HRB.out.frozen
                  have z0 := HZB.out.cell 0; have z1 := HZB.out.cell 1; have z2 := HZB.out.cell 2; have z3 := HZB.out.cell 3; have z4 := HZB.out.cell 4; have z5 := HZB.out.cell 5; have z6 := HZB.out.cell 6; have z7 := HZB.out.cell 7; have z8 := HZB.out.cell 8; have z9 := HZB.out.cell 9; have z10 := HZB.out.cell 10; have z11 := HZB.out.cell 11; have z12 := HZB.out.cell 12; simp at z0 z1 z2 z3 z4 z5 z6 z7 z8 z9 z10 z11 z12
                  go_wp2_with (go_at_call 66; refine (HVL.out _ HSB.out).mono ?_; rintro e w3 ⟨rfl, rfl⟩)
                  refine bodyPost_ret (results_cell_two rfl _ _ w.heap.size 78 _ (0, 0) _ rfl (set13 HRB.out (.int .i64 0) (.int .u32 0) (.int .u32 0) (.int .u64 0) (.string ⟨#[]⟩) (.string ⟨#[]⟩) (.string ⟨#[]⟩) (.string ⟨#[]⟩) (.string ⟨#[]⟩) (.string ⟨#[]⟩) (.string ⟨#[]⟩) (.string ⟨#[]⟩) (.string ⟨#[]⟩)) Tryd.underlying78 rfl (by kernel_rfl)) rfl ?_
                  exact readw HV2.out (only13 HOz.out (.inr (Nat.le_refl _)) (.int .i64 0) (.int .u32 0) (.int .u32 0) (.int .u64 0) (.string ⟨#[]⟩) (.string ⟨#[]⟩) (.string ⟨#[]⟩) (.string ⟨#[]⟩) (.string ⟨#[]⟩) (.string ⟨#[]⟩) (.string ⟨#[]⟩) (.string ⟨#[]⟩) (.string ⟨#[]⟩))
                · have hov2I : ¬ (n : Int) < (b : Int) + 2 + x := by omega
                  have hsc : (b : Int) + 2 + x ≤ cap := by omega
                  have hsb0 : (0 : Int) ≤ (b : Int) + 2 := by omega
                  have hsz2 : (b : Int) + 2 ≤ (b : Int) + 2 + x := by omega
                  have htn2 : ((b : Int) + 2 + x).toNat = b + 2 + x := by omega
                  have H3 := hide (show ¬ (q.drop 2).length < lowV (q.take 2) by rw [← HX.out, List.length_drop]; have := HQL.out; omega)
                  have HIS := hide (fun W => isR_all W ⟨((q.drop 2).take x).toArray⟩ (by rw [size_toArray_, List.length_take]; unfold maxLen; omega))
                  have HBAD := hide (fun h => text_bad (q := q) H2.out H3.out (by rw [← HX.out]; exact h))
                  have HGOOD := hide (fun h => text_good (q := q) H2.out H3.out (by rw [← HX.out]; exact h))
                  rw [← HX.out] at HGOOD
                  obtain ⟨A2, c2, hsl, HS2⟩ : ∃ A2 c2, (∀ W, (Instr.sliceAt 23 (.slice (some ⟨G, O, none⟩) n cap) (some (.int .i64 ((b : Int) + 2))) (some (.int .i64 ((b : Int) + 2 + x))) none).run Tryd.prog W = .ok (.slice A2 x c2) W) ∧ Hid (Rd wr [] (.slice A2 x c2) (ints .u8 (byts ((q.drop 2).take x)))) := by
                    refine ⟨if cap = b + 2 then some ⟨G, O, none⟩ else (some ⟨G, O, none⟩ : Option Addr).map (·.add (b + 2)), cap - (b + 2), fun W => ?_, ?_⟩
                    · have h := slice_any (P := Tryd.prog) 23 5 (some ⟨G, O, none⟩) n cap (b + 2) (b + 2 + x) ((b : Int) + 2) ((b : Int) + 2 + x) (by omega) (by omega) Tryd.underlying23 hib hib1 (by omega) (by omega) W
                      rw [show b + 2 + x - (b + 2) = x by omega] at h
                      exact h
                    · by_cases hcp : cap = b + 2
                      · rw [if_pos hcp]
                        have hx0 : x = 0 := by omega
                        rw [hx0, List.take_zero]
                        exact Rd.none_ (by unfold maxLen; omega)
                      · rw [if_neg hcp]
                        have h := (HR.out.drop_ (b + 2) (by omega) (by omega)).take x (by omega)
                        rw [ints_drop, ints_take, ← List.drop_drop, ← HQ.out] at h
                        simp only [Option.map_some, add_mk]
                        exact h
                  have hcv := rd_string (P := Tryd.prog) HS2.out 23 9 5 Tryd.underlying23 Tryd.underlying5 Tryd.underlying9
                  unfold RetB at HIS
                  generalize hsv : (⟨((q.drop 2).take x).toArray⟩ : ByteArray) = sv at *
                  cases hp : (parseV sv).isSome with
                  | false =>
                    have HV2 := hide (show readV l = (3, zeroM 0) by
                      have e := HBAD.out hp
                      rw [HST.out, ← HQ.out, HTX.out, if_neg (by rw [e]; decide), e])
                    rw [hp] at HIS
                    go_wp2_with (first
                      | (go_at_call 66; refine (HVL.out _ HSB.out).mono ?_; rintro e w3 ⟨rfl, rfl⟩)
                      | (go_at_call 67; refine (HIS.out _).mono ?_; rintro e w5 ⟨rfl, ho5⟩; replace HRB := hide (HRB.out.only ho5 (by simp)); replace HZB := hide (HZB.out.only ho5 (by simp)); replace HOz := hide (HOz.out.trans ho5); have r0 := HRB.out.cell 0; have r1 := HRB.out.cell 1; have r2 := HRB.out.cell 2; have r3 := HRB.out.cell 3; have r4 := HRB.out.cell 4; have r5 := HRB.out.cell 5; have r6 := HRB.out.cell 6; have r7 := HRB.out.cell 7; have r8 := HRB.out.cell 8; have r9 := HRB.out.cell 9; have r10 := HRB.out.cell 10; have r11 := HRB.out.cell 11; have r12 := HRB.out.cell 12; simp at r0 r1 r2 r3 r4 r5 r6 r7 r8 r9 r10 r11 r12; have rf := HRB.out.frozen; have z0 := HZB.out.cell 0; have z1 := HZB.out.cell 1; have z2 := HZB.out.cell 2; have z3 := HZB.out.cell 3; have z4 := HZB.out.cell 4; have z5 := HZB.out.cell 5; have z6 := HZB.out.cell 6; have z7 := HZB.out.cell 7; have z8 := HZB.out.cell 8; have z9 := HZB.out.cell 9; have z10 := HZB.out.cell 10; have z11 := HZB.out.cell 11; have z12 := HZB.out.cell 12; simp at z0 z1 z2 z3 z4 z5 z6 z7 z8 z9 z10 z11 z12))
                    refine bodyPost_ret (results_cell_two rfl _ _ w.heap.size 78 _ (0, 0) _ rfl (set13 HRB.out (.int .i64 0) (.int .u32 0) (.int .u32 0) (.int .u64 0) (.string ⟨#[]⟩) (.string ⟨#[]⟩) (.string ⟨#[]⟩) (.string ⟨#[]⟩) (.string ⟨#[]⟩) (.string ⟨#[]⟩) (.string ⟨#[]⟩) (.string ⟨#[]⟩) (.string ⟨#[]⟩)) Tryd.underlying78 rfl (by kernel_rfl)) rfl ?_
                    exact readw HV2.out (only13 HOz.out (.inr (Nat.le_refl _)) (.int .i64 0) (.int .u32 0) (.int .u32 0) (.int .u64 0) (.string ⟨#[]⟩) (.string ⟨#[]⟩) (.string ⟨#[]⟩) (.string ⟨#[]⟩) (.string ⟨#[]⟩) (.string ⟨#[]⟩) (.string ⟨#[]⟩) (.string ⟨#[]⟩) (.string ⟨#[]⟩))
                  | true =>
                    have HV2 := hide (show readV l = stageV k ns (ts ++ [sv]) (l.drop (b + 2 + x)) by
                      have e := HGOOD.out hp
                      rw [HST.out, ← HQ.out, HTX.out, e, if_pos rfl, HQ.out, List.drop_drop, List.drop_drop, Nat.add_assoc])
                    rw [hp] at HIS
                    go_wp2_with (first
                      | (go_at_call 66; refine (HVL.out _ HSB.out).mono ?_; rintro e w3 ⟨rfl, rfl⟩)
                      | (go_at_call 67; refine (HIS.out _).mono ?_; rintro e w5 ⟨rfl, ho5⟩; have HRN := hide (reads_one w5 9 (.string sv) (w5.heap.size + 1) (Nat.lt_succ_self _)); have HOW2 := hide (World.ownsRow.alloc (own_only HOWT.out ho5 (by simp)) (.cells #[.string sv] 9)); have HO2 := hide ((HOT.out.trans ho5).alloc (.cells #[.string sv] 9)); have HSZ := hide (HOT.out.trans ho5).size; clear ho5)
                      | (at_builtin; refine wpList_append_any _ rfl (.tmp 134) (.tmp 136) 80 rfl wl.heap.size 9 is (.string ByteArray.empty) 1 16 Tryd.underlying80 his hs0 hs1 hs2 rfl (by decide) _ t _ rfl HOW2.out _ _ 1 1 [.string sv] rfl HRN.out (by simp [Value.oneCell']) (by unfold maxLen; omega) (by omega) (by have := HSZ.out; simp; omega) ?_; intro v1 w6 hown1 hg1 _; have HOW3 := hide hown1; have HO3 := hide (HO2.out.grown hg1 (fun jj hjj => .inr (own_block_ge HOW2.out hjj))); clear hown1 hg1))
                    go_roundw
                    case rel => exact ⟨t + 1, b + 2 + x, ts ++ [sv], by omega, by omega, congrArg (Value.int .i64) (show (b : Int) + 2 + x = ((b + 2 + x : Nat) : Int) by omega), congrArg (Value.int .i64) (show (t : Int) + 1 = ((t + 1 : Nat) : Int) by omega), hide (by rw [List.length_append, List.length_singleton, HTL.out]), hide (by rw [← strc_snoc]; exact HOW3.out), HO3, HV2⟩
                    case measure => simp [intOf]; omega
            · have hge2 : ¬ (t : Int) < m := by omega
              obtain rfl : m = t := by omega
              have HQL := hide (show (l.drop b).length = n - b by rw [List.length_drop]; have := HN.out; omega)
              have HEND := hide (stage_end hk1 hk4 HNL2.out (ts := ts) (by rw [HTL.out, HS2.out]) (l.drop b))
              clear hlt
              by_cases hbn2 : b = n
              case neg =>
                have hbI : ((b : Int) != n) = true := by rw [bne_iff_ne]; omega
                have HV2 := hide (show readV l = (5, zeroM 0) by
                  rw [HST.out, HEND.out, if_neg (by intro h; have := HQL.out; rw [h] at this; simp at this; omega)])
                clear hbn2
                have r0 := HRB.out.cell 0; have r1 := HRB.out.cell 1; have r2 := HRB.out.cell 2; have r3 := HRB.out.cell 3; have r4 := HRB.out.cell 4; have r5 := HRB.out.cell 5; have r6 := HRB.out.cell 6; have r7 := HRB.out.cell 7; have r8 := HRB.out.cell 8; have r9 := HRB.out.cell 9; have r10 := HRB.out.cell 10; have r11 := HRB.out.cell 11; have r12 := HRB.out.cell 12; simp at r0 r1 r2 r3 r4 r5 r6 r7 r8 r9 r10 r11 r12; have rf := HRB.out.frozen
                have z0 := HZB.out.cell 0; have z1 := HZB.out.cell 1; have z2 := HZB.out.cell 2; have z3 := HZB.out.cell 3; have z4 := HZB.out.cell 4; have z5 := HZB.out.cell 5; have z6 := HZB.out.cell 6; have z7 := HZB.out.cell 7; have z8 := HZB.out.cell 8; have z9 := HZB.out.cell 9; have z10 := HZB.out.cell 10; have z11 := HZB.out.cell 11; have z12 := HZB.out.cell 12; simp at z0 z1 z2 z3 z4 z5 z6 z7 z8 z9 z10 z11 z12
                go_wp2_with fail
                refine bodyPost_ret (results_cell_two rfl _ _ w.heap.size 78 _ (0, 0) _ rfl (set13 HRB.out (.int .i64 0) (.int .u32 0) (.int .u32 0) (.int .u64 0) (.string ⟨#[]⟩) (.string ⟨#[]⟩) (.string ⟨#[]⟩) (.string ⟨#[]⟩) (.string ⟨#[]⟩) (.string ⟨#[]⟩) (.string ⟨#[]⟩) (.string ⟨#[]⟩) (.string ⟨#[]⟩)) Tryd.underlying78 rfl (by kernel_rfl)) rfl ?_
                exact readw HV2.out (only13 HOz.out (.inr (Nat.le_refl _)) (.int .i64 0) (.int .u32 0) (.int .u32 0) (.int .u64 0) (.string ⟨#[]⟩) (.string ⟨#[]⟩) (.string ⟨#[]⟩) (.string ⟨#[]⟩) (.string ⟨#[]⟩) (.string ⟨#[]⟩) (.string ⟨#[]⟩) (.string ⟨#[]⟩) (.string ⟨#[]⟩))
              have hbI : ((b : Int) != n) = false := by rw [bne_eq_false_iff_eq]; omega
              have HV2 := hide (show readV l = (0, setL (rowL k) (numsW (rowL k) ns ++ ts.map .string) (zeroM k)) by
                rw [HST.out, HEND.out, if_pos (List.length_eq_zero_iff.1 (by have := HQL.out; omega))])
              clear HEND HST HQL hbn2
              have HOW7 := hide (own_only how.out HOT.out (by simp))
              obtain ⟨gT, capT, cur, hvT, hgT, hhT, hnT, hmT, _, hxT⟩ : ∃ g cap cur, (Value.slice At m ct) = .slice (some ⟨g, 0, none⟩) m cap ∧ wl.heap.size ≤ g ∧ Blk wr g 9 cur ∧ m ≤ cap ∧ cap ≤ maxLen ∧ cur.size = cap * 1 ∧ cur.toList.take (m * 1) = strc ts := by
                rcases HOWT.out.2 with ⟨_, h⟩ | h
                · omega
                · exact h
              injection hvT with e1 e2 e3
              subst e1 e3
              have HBT := hide hhT
              have HCT := hide (show ∀ (i : Nat) x, ts[i]? = some x → cur[i]? = some (.string x) by
                intro i x hi
                have h := congrArg (·[i]?) hxT
                simp only [Nat.mul_one, strc, List.getElem?_map, hi, Option.map_some, List.getElem?_take] at h
                split at h
                · simpa using h
                · cases h)
              have HRN := hide (reads_one wr 56 (.int .u64 0) (wr.heap.size + 1) (Nat.lt_succ_self _))
              have HOW8 := hide (World.ownsRow.alloc HOW7.out (.cells #[.int .u64 0] 56))
              have HRB8 := hide (HRB.out.alloc (.cells #[.int .u64 0] 56))
              have HBT8 := hide (HBT.out.alloc (.cells #[.int .u64 0] 56))
              have HO8 := hide (HOz.out.alloc (.cells #[.int .u64 0] 56))
              have HSZ := hide HOT.out.size
              have HWS := hide (show w.heap.size ≤ S7 by have := HGS.out; omega)
              clear hhT hxT HOT HOWT HBT HRB HZB HOz HZBr HRBr HRr c6 how hgT
              go_upto_region 44 with (at_builtin; refine wpList_append_any _ rfl (.tmp 146) (.tmp 147) 106 rfl S7 56 iu (.int .u64 0) 1 8 Tryd.underlying106 hiu hu0 hu1 hu2 rfl (by decide) _ szs.length _ rfl HOW8.out _ _ 1 1 [.int .u64 0] rfl HRN.out (by simp [Value.oneCell']) (by unfold maxLen; omega) (by omega) (by have := HSZ.out; simp; omega) ?_; intro v1 w6 hown1 hg1 _; replace HRB8 := hide (HRB8.out.grown hg1 (own_ne HOW8.out HRB8.out (by decide))); replace HBT8 := hide (HBT8.out.grown hg1 (own_ne HOW8.out HBT8.out (by decide))); replace HO8 := hide (HO8.out.grown hg1 (fun jj hjj => .inr (by have := own_block_ge HOW8.out hjj; have := HWS.out; omega))); replace HOW8 := hide hown1; clear hown1 hg1)
              have HNR := hide (Rd.of_own (N := []) HOW8.out (by simp)).1
              obtain ⟨A1, c1, rfl, _, _⟩ := own_form HOW8.out
              obtain ⟨gN, oN, hA0, _, hgN, _⟩ := HNR.out.at_.2.2.2 szs.length (Value.int .u64 0) (by
                have h : (ints .u64 (nats ns)).length = szs.length := by rw [ints_length, nats_length, HNL2.out, HS1.out]
                rw [← h]
                simp)
              subst hA0
              have HCN := hide (show ∀ (i x : Nat), ns[i]? = some x → w6.cell? ⟨gN, oN + i, none⟩ = some (Value.int .u64 (x : Nat)) by
                intro i x h
                have hl : i < ns.length := (List.getElem?_eq_some_iff.1 h).1
                obtain ⟨g2, o2, hA, _, _, hc⟩ := HNR.out.at_.2.2.2 i (Value.int .u64 (x : Nat)) (by rw [List.getElem?_append_left (by rw [ints_length, nats_length]; exact hl)]; exact ints_get (nats_get h))
                injection hA with hA
                injection hA with e1 e2
                rw [← e1, ← e2] at hc
                exact hc)
              have hkx : (k : Int) = 1 ∨ (k : Int) = 2 ∨ (k : Int) = 3 ∨ (k : Int) = 4 := by omega
              rcases hkx with hk | hk | hk | hk
              · skip
                have hkN : k = 1 := by omega
                have eK1 : ((k : Int) == 1) = true := by rw [beq_iff_eq]; exact hk
                have HSE := hide (show szs = [4] by rw [HS1.out, hkN]; rfl)
                have hm0 : m = 5 := by rw [HS2.out, hkN]; rfl
                have hnl : ns.length = 1 := by rw [HNL2.out, hkN]; rfl
                have hsl : szs.length = 1 := by rw [HSE.out]; rfl
                have htl : ts.length = 5 := by rw [HTL.out, hm0]
                obtain ⟨n0, rfl⟩ : ∃ n0, ns = [n0] := by
                  match ns, hnl with
                  | [n0], _ => exact ⟨n0, rfl⟩
                obtain ⟨x0, x1, x2, x3, x4, rfl⟩ : ∃ x0 x1 x2 x3 x4, ts = [x0, x1, x2, x3, x4] := by
                  match ts, htl with
                  | [x0, x1, x2, x3, x4], _ => exact ⟨x0, x1, x2, x3, x4, rfl⟩
                have hb0 : n0 < 256 ^ 4 := by have := HNB.out 0 (by rw [hnl]; omega); rw [HSE.out] at this; exact this
                have hw0 : IntKind.u32.wrap (n0 : Int) = n0 := by rw [IntKind.wrap_u32]; omega
                have q0 := HCN.out 0 n0 rfl
                clear hb0
                replace HV2 := hide (show readV l = (0, #[.int .i64 1, .int .u32 (n0 : Nat), .int .u32 0, .int .u64 0, .string x0, .string x1, .string x2, .string ⟨#[]⟩, .string ⟨#[]⟩, .string ⟨#[]⟩, .string ⟨#[]⟩, .string x3, .string x4]) by rw [HV2.out, hkN]; rfl)
                rw [Nat.add_zero] at q0
                have t0 := (HBT8.out.cell 0).trans (HCT.out 0 x0 rfl)
                have t1 := (HBT8.out.cell 1).trans (HCT.out 1 x1 rfl)
                have t2 := (HBT8.out.cell 2).trans (HCT.out 2 x2 rfl)
                have t3 := (HBT8.out.cell 3).trans (HCT.out 3 x3 rfl)
                have t4 := (HBT8.out.cell 4).trans (HCT.out 4 x4 rfl)
                have HW := hide (fun W (h0 : W.cell? ⟨gT, 0, none⟩ = some (.string x0)) (h1 : W.cell? ⟨gT, 1, none⟩ = some (.string x1)) (h2 : W.cell? ⟨gT, 2, none⟩ = some (.string x2)) (h3 : W.cell? ⟨gT, 3, none⟩ = some (.string x3)) (h4 : W.cell? ⟨gT, 4, none⟩ = some (.string x4)) => With_1 W n0 0 0 gT 0 ct x0 x1 x2 x3 x4 (by omega) (by first | exact h0 | simpa using h0) (by first | exact h1 | simpa using h1) (by first | exact h2 | simpa using h2) (by first | exact h3 | simpa using h3) (by first | exact h4 | simpa using h4))
                subst hm0
                clear hkN hnl htl HNB HCN HCT HSE hk
                go_wp2_with (go_at_call 41; refine (HW.out _ (by exact t0) (by exact t1) (by exact t2) (by exact t3) (by exact t4)).mono ?_; rintro e w7 ⟨rfl, ho7⟩; (first | (replace HRB8 := hide (HRB8.out.only ho7 (by simp)); replace HO8 := hide (HO8.out.trans ho7)) | (replace HRB8 := hide (HRB8.out.drew.only ho7 (by simp)); replace HO8 := hide (HO8.out.drew.trans ho7))); have r0 := HRB8.out.cell 0; have r1 := HRB8.out.cell 1; have r2 := HRB8.out.cell 2; have r3 := HRB8.out.cell 3; have r4 := HRB8.out.cell 4; have r5 := HRB8.out.cell 5; have r6 := HRB8.out.cell 6; have r7 := HRB8.out.cell 7; have r8 := HRB8.out.cell 8; have r9 := HRB8.out.cell 9; have r10 := HRB8.out.cell 10; have r11 := HRB8.out.cell 11; have r12 := HRB8.out.cell 12; simp at r0 r1 r2 r3 r4 r5 r6 r7 r8 r9 r10 r11 r12; have rf := HRB8.out.frozen; clear ho7)
                refine bodyPost_ret (results_cell_two rfl _ _ w.heap.size 78 _ (0, 0) _ rfl (set13 HRB8.out (.int .i64 1) (.int .u32 (n0 : Nat)) (.int .u32 0) (.int .u64 0) (.string x0) (.string x1) (.string x2) (.string ⟨#[]⟩) (.string ⟨#[]⟩) (.string ⟨#[]⟩) (.string ⟨#[]⟩) (.string x3) (.string x4)) Tryd.underlying78 rfl (by kernel_rfl)) rfl ?_
                exact readw HV2.out (only13 HO8.out (.inr (Nat.le_refl _)) (.int .i64 1) (.int .u32 (n0 : Nat)) (.int .u32 0) (.int .u64 0) (.string x0) (.string x1) (.string x2) (.string ⟨#[]⟩) (.string ⟨#[]⟩) (.string ⟨#[]⟩) (.string ⟨#[]⟩) (.string x3) (.string x4))
              · skip
                have hkN : k = 2 := by omega
                have eK1 : ((k : Int) == 1) = false := by rw [beq_eq_false_iff_ne]; omega
                have eK2 : ((k : Int) == 2) = true := by rw [beq_iff_eq]; exact hk
                have HSE := hide (show szs = [4, 4] by rw [HS1.out, hkN]; rfl)
                have hm0 : m = 4 := by rw [HS2.out, hkN]; rfl
                have hnl : ns.length = 2 := by rw [HNL2.out, hkN]; rfl
                have hsl : szs.length = 2 := by rw [HSE.out]; rfl
                have htl : ts.length = 4 := by rw [HTL.out, hm0]
                obtain ⟨n0, n1, rfl⟩ : ∃ n0 n1, ns = [n0, n1] := by
                  match ns, hnl with
                  | [n0, n1], _ => exact ⟨n0, n1, rfl⟩
                obtain ⟨x0, x1, x2, x3, rfl⟩ : ∃ x0 x1 x2 x3, ts = [x0, x1, x2, x3] := by
                  match ts, htl with
                  | [x0, x1, x2, x3], _ => exact ⟨x0, x1, x2, x3, rfl⟩
                have hb0 : n0 < 256 ^ 4 := by have := HNB.out 0 (by rw [hnl]; omega); rw [HSE.out] at this; exact this
                have hw0 : IntKind.u32.wrap (n0 : Int) = n0 := by rw [IntKind.wrap_u32]; omega
                have q0 := HCN.out 0 n0 rfl
                clear hb0
                have hb1 : n1 < 256 ^ 4 := by have := HNB.out 1 (by rw [hnl]; omega); rw [HSE.out] at this; exact this
                have hw1 : IntKind.u32.wrap (n1 : Int) = n1 := by rw [IntKind.wrap_u32]; omega
                have q1 := HCN.out 1 n1 rfl
                clear hb1
                replace HV2 := hide (show readV l = (0, #[.int .i64 2, .int .u32 (n0 : Nat), .int .u32 (n1 : Nat), .int .u64 0, .string x0, .string ⟨#[]⟩, .string ⟨#[]⟩, .string x1, .string ⟨#[]⟩, .string ⟨#[]⟩, .string ⟨#[]⟩, .string x2, .string x3]) by rw [HV2.out, hkN]; rfl)
                rw [Nat.add_zero] at q0
                have t0 := (HBT8.out.cell 0).trans (HCT.out 0 x0 rfl)
                have t1 := (HBT8.out.cell 1).trans (HCT.out 1 x1 rfl)
                have t2 := (HBT8.out.cell 2).trans (HCT.out 2 x2 rfl)
                have t3 := (HBT8.out.cell 3).trans (HCT.out 3 x3 rfl)
                have HW := hide (fun W (h0 : W.cell? ⟨gT, 0, none⟩ = some (.string x0)) (h1 : W.cell? ⟨gT, 1, none⟩ = some (.string x1)) (h2 : W.cell? ⟨gT, 2, none⟩ = some (.string x2)) (h3 : W.cell? ⟨gT, 3, none⟩ = some (.string x3)) => With_2 W n0 n1 0 gT 0 ct x0 x1 x2 x3 (by omega) (by first | exact h0 | simpa using h0) (by first | exact h1 | simpa using h1) (by first | exact h2 | simpa using h2) (by first | exact h3 | simpa using h3))
                subst hm0
                clear hkN hnl htl HNB HCN HCT HSE hk
                go_wp2_with fail
                go_region_with (go_at_call 41; refine (HW.out _ (by exact t0) (by exact t1) (by exact t2) (by exact t3)).mono ?_; rintro e w7 ⟨rfl, ho7⟩; (first | (replace HRB8 := hide (HRB8.out.only ho7 (by simp)); replace HO8 := hide (HO8.out.trans ho7)) | (replace HRB8 := hide (HRB8.out.drew.only ho7 (by simp)); replace HO8 := hide (HO8.out.drew.trans ho7))); have r0 := HRB8.out.cell 0; have r1 := HRB8.out.cell 1; have r2 := HRB8.out.cell 2; have r3 := HRB8.out.cell 3; have r4 := HRB8.out.cell 4; have r5 := HRB8.out.cell 5; have r6 := HRB8.out.cell 6; have r7 := HRB8.out.cell 7; have r8 := HRB8.out.cell 8; have r9 := HRB8.out.cell 9; have r10 := HRB8.out.cell 10; have r11 := HRB8.out.cell 11; have r12 := HRB8.out.cell 12; simp at r0 r1 r2 r3 r4 r5 r6 r7 r8 r9 r10 r11 r12; have rf := HRB8.out.frozen; have q0b := (cell_only ho7 hgN (by simp)).trans q0; have q1b := (cell_only ho7 hgN (by simp)).trans q1; clear ho7)
                all_goals (go_wp2_with fail)
                all_goals refine bodyPost_ret (results_cell_two rfl _ _ w.heap.size 78 _ (0, 0) _ rfl (set13 HRB8.out (.int .i64 2) (.int .u32 (n0 : Nat)) (.int .u32 (n1 : Nat)) (.int .u64 0) (.string x0) (.string ⟨#[]⟩) (.string ⟨#[]⟩) (.string x1) (.string ⟨#[]⟩) (.string ⟨#[]⟩) (.string ⟨#[]⟩) (.string x2) (.string x3)) Tryd.underlying78 rfl (by kernel_rfl)) rfl ?_
                all_goals exact readw HV2.out (only13 HO8.out (.inr (Nat.le_refl _)) (.int .i64 2) (.int .u32 (n0 : Nat)) (.int .u32 (n1 : Nat)) (.int .u64 0) (.string x0) (.string ⟨#[]⟩) (.string ⟨#[]⟩) (.string x1) (.string ⟨#[]⟩) (.string ⟨#[]⟩) (.string ⟨#[]⟩) (.string x2) (.string x3))
              · skip
                have hkN : k = 3 := by omega
                have eK1 : ((k : Int) == 1) = false := by rw [beq_eq_false_iff_ne]; omega
                have eK2 : ((k : Int) == 2) = false := by rw [beq_eq_false_iff_ne]; omega
                have eK3 : ((k : Int) == 3) = true := by rw [beq_iff_eq]; exact hk
                have HSE := hide (show szs = [4] by rw [HS1.out, hkN]; rfl)
                have hm0 : m = 2 := by rw [HS2.out, hkN]; rfl
                have hnl : ns.length = 1 := by rw [HNL2.out, hkN]; rfl
                have hsl : szs.length = 1 := by rw [HSE.out]; rfl
                have htl : ts.length = 2 := by rw [HTL.out, hm0]
                obtain ⟨n0, rfl⟩ : ∃ n0, ns = [n0] := by
                  match ns, hnl with
                  | [n0], _ => exact ⟨n0, rfl⟩
                obtain ⟨x0, x1, rfl⟩ : ∃ x0 x1, ts = [x0, x1] := by
                  match ts, htl with
                  | [x0, x1], _ => exact ⟨x0, x1, rfl⟩
                have hb0 : n0 < 256 ^ 4 := by have := HNB.out 0 (by rw [hnl]; omega); rw [HSE.out] at this; exact this
                have hw0 : IntKind.u32.wrap (n0 : Int) = n0 := by rw [IntKind.wrap_u32]; omega
                have q0 := HCN.out 0 n0 rfl
                clear hb0
                replace HV2 := hide (show readV l = (0, #[.int .i64 3, .int .u32 0, .int .u32 (n0 : Nat), .int .u64 0, .string ⟨#[]⟩, .string ⟨#[]⟩, .string ⟨#[]⟩, .string ⟨#[]⟩, .string x0, .string x1, .string ⟨#[]⟩, .string ⟨#[]⟩, .string ⟨#[]⟩]) by rw [HV2.out, hkN]; rfl)
                rw [Nat.add_zero] at q0
                have t0 := (HBT8.out.cell 0).trans (HCT.out 0 x0 rfl)
                have t1 := (HBT8.out.cell 1).trans (HCT.out 1 x1 rfl)
                have HW := hide (fun W (h0 : W.cell? ⟨gT, 0, none⟩ = some (.string x0)) (h1 : W.cell? ⟨gT, 1, none⟩ = some (.string x1)) => With_3 W 0 n0 0 gT 0 ct x0 x1 (by omega) (by first | exact h0 | simpa using h0) (by first | exact h1 | simpa using h1))
                subst hm0
                clear hkN hnl htl HNB HCN HCT HSE hk
                go_wp2_with (go_at_call 41; refine (HW.out _ (by exact t0) (by exact t1)).mono ?_; rintro e w7 ⟨rfl, ho7⟩; (first | (replace HRB8 := hide (HRB8.out.only ho7 (by simp)); replace HO8 := hide (HO8.out.trans ho7)) | (replace HRB8 := hide (HRB8.out.drew.only ho7 (by simp)); replace HO8 := hide (HO8.out.drew.trans ho7))); have r0 := HRB8.out.cell 0; have r1 := HRB8.out.cell 1; have r2 := HRB8.out.cell 2; have r3 := HRB8.out.cell 3; have r4 := HRB8.out.cell 4; have r5 := HRB8.out.cell 5; have r6 := HRB8.out.cell 6; have r7 := HRB8.out.cell 7; have r8 := HRB8.out.cell 8; have r9 := HRB8.out.cell 9; have r10 := HRB8.out.cell 10; have r11 := HRB8.out.cell 11; have r12 := HRB8.out.cell 12; simp at r0 r1 r2 r3 r4 r5 r6 r7 r8 r9 r10 r11 r12; have rf := HRB8.out.frozen; clear ho7)
                refine bodyPost_ret (results_cell_two rfl _ _ w.heap.size 78 _ (0, 0) _ rfl (set13 HRB8.out (.int .i64 3) (.int .u32 0) (.int .u32 (n0 : Nat)) (.int .u64 0) (.string ⟨#[]⟩) (.string ⟨#[]⟩) (.string ⟨#[]⟩) (.string ⟨#[]⟩) (.string x0) (.string x1) (.string ⟨#[]⟩) (.string ⟨#[]⟩) (.string ⟨#[]⟩)) Tryd.underlying78 rfl (by kernel_rfl)) rfl ?_
                exact readw HV2.out (only13 HO8.out (.inr (Nat.le_refl _)) (.int .i64 3) (.int .u32 0) (.int .u32 (n0 : Nat)) (.int .u64 0) (.string ⟨#[]⟩) (.string ⟨#[]⟩) (.string ⟨#[]⟩) (.string ⟨#[]⟩) (.string x0) (.string x1) (.string ⟨#[]⟩) (.string ⟨#[]⟩) (.string ⟨#[]⟩))
              · skip
                have hkN : k = 4 := by omega
                have eK1 : ((k : Int) == 1) = false := by rw [beq_eq_false_iff_ne]; omega
                have eK2 : ((k : Int) == 2) = false := by rw [beq_eq_false_iff_ne]; omega
                have eK3 : ((k : Int) == 3) = false := by rw [beq_eq_false_iff_ne]; omega
                have HSE := hide (show szs = [4, 8] by rw [HS1.out, hkN]; rfl)
                have hm0 : m = 1 := by rw [HS2.out, hkN]; rfl
                have hnl : ns.length = 2 := by rw [HNL2.out, hkN]; rfl
                have hsl : szs.length = 2 := by rw [HSE.out]; rfl
                have htl : ts.length = 1 := by rw [HTL.out, hm0]
                obtain ⟨n0, n1, rfl⟩ : ∃ n0 n1, ns = [n0, n1] := by
                  match ns, hnl with
                  | [n0, n1], _ => exact ⟨n0, n1, rfl⟩
                obtain ⟨x0, rfl⟩ : ∃ x0, ts = [x0] := by
                  match ts, htl with
                  | [x0], _ => exact ⟨x0, rfl⟩
                have hb0 : n0 < 256 ^ 4 := by have := HNB.out 0 (by rw [hnl]; omega); rw [HSE.out] at this; exact this
                have hw0 : IntKind.u32.wrap (n0 : Int) = n0 := by rw [IntKind.wrap_u32]; omega
                have q0 := HCN.out 0 n0 rfl
                clear hb0
                have hb1 : n1 < 256 ^ 8 := by have := HNB.out 1 (by rw [hnl]; omega); rw [HSE.out] at this; exact this
                have q1 := HCN.out 1 n1 rfl
                clear hb1
                replace HV2 := hide (show readV l = (0, #[.int .i64 4, .int .u32 0, .int .u32 (n0 : Nat), .int .u64 (n1 : Nat), .string ⟨#[]⟩, .string ⟨#[]⟩, .string ⟨#[]⟩, .string ⟨#[]⟩, .string ⟨#[]⟩, .string ⟨#[]⟩, .string x0, .string ⟨#[]⟩, .string ⟨#[]⟩]) by rw [HV2.out, hkN]; rfl)
                rw [Nat.add_zero] at q0
                have t0 := (HBT8.out.cell 0).trans (HCT.out 0 x0 rfl)
                have HW := hide (fun W (h0 : W.cell? ⟨gT, 0, none⟩ = some (.string x0)) => With_4 W 0 n0 n1 gT 0 ct x0 (by omega) (by first | exact h0 | simpa using h0))
                subst hm0
                clear hkN hnl htl HNB HCN HCT HSE hk
                go_wp2_with fail
                go_region_with (go_at_call 41; refine (HW.out _ (by exact t0)).mono ?_; rintro e w7 ⟨rfl, ho7⟩; (first | (replace HRB8 := hide (HRB8.out.only ho7 (by simp)); replace HO8 := hide (HO8.out.trans ho7)) | (replace HRB8 := hide (HRB8.out.drew.only ho7 (by simp)); replace HO8 := hide (HO8.out.drew.trans ho7))); have r0 := HRB8.out.cell 0; have r1 := HRB8.out.cell 1; have r2 := HRB8.out.cell 2; have r3 := HRB8.out.cell 3; have r4 := HRB8.out.cell 4; have r5 := HRB8.out.cell 5; have r6 := HRB8.out.cell 6; have r7 := HRB8.out.cell 7; have r8 := HRB8.out.cell 8; have r9 := HRB8.out.cell 9; have r10 := HRB8.out.cell 10; have r11 := HRB8.out.cell 11; have r12 := HRB8.out.cell 12; simp at r0 r1 r2 r3 r4 r5 r6 r7 r8 r9 r10 r11 r12; have rf := HRB8.out.frozen; have q0b := (cell_only ho7 hgN (by simp)).trans q0; have q1b := (cell_only ho7 hgN (by simp)).trans q1; clear ho7)
                all_goals (go_wp2_with fail)
                all_goals refine bodyPost_ret (results_cell_two rfl _ _ w.heap.size 78 _ (0, 0) _ rfl (set13 HRB8.out (.int .i64 4) (.int .u32 0) (.int .u32 (n0 : Nat)) (.int .u64 (n1 : Nat)) (.string ⟨#[]⟩) (.string ⟨#[]⟩) (.string ⟨#[]⟩) (.string ⟨#[]⟩) (.string ⟨#[]⟩) (.string ⟨#[]⟩) (.string x0) (.string ⟨#[]⟩) (.string ⟨#[]⟩)) Tryd.underlying78 rfl (by kernel_rfl)) rfl ?_
                all_goals exact readw HV2.out (only13 HO8.out (.inr (Nat.le_refl _)) (.int .i64 4) (.int .u32 0) (.int .u32 (n0 : Nat)) (.int .u64 (n1 : Nat)) (.string ⟨#[]⟩) (.string ⟨#[]⟩) (.string ⟨#[]⟩) (.string ⟨#[]⟩) (.string ⟨#[]⟩) (.string ⟨#[]⟩) (.string x0) (.string ⟨#[]⟩) (.string ⟨#[]⟩))
end
end Go.Proofs.YteoifokmbkpbnaaDoor

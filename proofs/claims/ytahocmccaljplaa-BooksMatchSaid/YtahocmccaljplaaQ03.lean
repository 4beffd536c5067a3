/-
  Walks and plain words (texts Bk7). No condition beyond those that each theorem states.
-/
import Derived.Test.YtahocmccaljplaaQ02
namespace Go.Proofs.Ytahocmccaljplaa
section
open Go.RowKit Go.Deep Go.Maps Go.WideMaps

theorem rec_get {l : List (Rc × Value)} {i : Nat} {r : Rc × Value} (h : l[i]? = some r) {w : World} {N : List Nat} {g o n cap : Nat} (hr : RdS 5 rkC w N (.slice (some ⟨g, o, none⟩) n cap) l) :
    w.cell? ⟨g, o + i * 5, none⟩ = some (.int .i64 r.1.k) ∧ w.cell? ⟨g, o + i * 5 + 1, none⟩ = some (.int .i64 r.1.a) ∧ w.cell? ⟨g, o + i * 5 + 2, none⟩ = some (.int .i64 r.1.p) ∧ w.cell? ⟨g, o + i * 5 + 3, none⟩ = some r.2 ∧ w.cell? ⟨g, o + i * 5 + 4, none⟩ = some (.int .i64 r.1.n) :=
  ⟨hr.cell h (j := 0) rfl, hr.cell h (j := 1) rfl, hr.cell h (j := 2) rfl, hr.cell h (j := 3) rfl, hr.cell h (j := 4) rfl⟩
theorem rd_of_blkB {w : World} {g e : Nat} {cs : List Value} (h : Blk w g e cs.toArray) (N : List Nat) (hN : g ∉ N) (hm : cs.length ≤ maxLen) : Rd w N (.slice (some ⟨g, 0, none⟩) cs.length cs.length) cs :=
  ⟨_, cs.length, rfl, Nat.le_refl _, hm, .inr ⟨g, 0, rfl, hN, h.lt, fun k x hk => by rw [Nat.zero_add, h.cell]; simpa using hk⟩⟩
theorem part_cell {w : World} {G i j : Nat} {l : List Rc} (h : Blk w G 3 (ints .i64 (partN l i)).toArray) (hi : i ≤ l.length) (hj : j < l.length) : ∃ x : Int, w.cell? ⟨G, j, none⟩ = some (.int .i64 x) := by
  have hlt : j < (partN l i).length := by rw [partN_len hi]; exact hj
  refine ⟨(partN l i)[j], ?_⟩
  rw [h.cell]
  simp [ints, hlt]
theorem cells5 {w : World} {g : Nat} {t : TypeId} {x0 x1 x2 x3 x4 : Value} (h : Blk w g t #[x0, x1, x2, x3, x4]) : w.cell? ⟨g, 0, none⟩ = some x0 ∧ w.cell? ⟨g, 1, none⟩ = some x1 ∧ w.cell? ⟨g, 2, none⟩ = some x2 ∧ w.cell? ⟨g, 3, none⟩ = some x3 ∧ w.cell? ⟨g, 4, none⟩ = some x4 :=
  ⟨h.cell 0, h.cell 1, h.cell 2, h.cell 3, h.cell 4⟩
theorem blk_set {w : World} {G : Nat} {T : TypeId} {xs : List Int} (h : Blk w G T (ints .i64 xs).toArray) (i : Nat) (x : Int) : Blk (w.setCell ⟨G, i, none⟩ (.int .i64 x)) G T (ints .i64 (xs.set i x)).toArray := by
  have h1 := h.set_ i (.int .i64 x)
  rw [List.setIfInBounds_toArray] at h1
  rw [show ints .i64 (xs.set i x) = (ints .i64 xs).set i (.int .i64 x) from by simp [ints, List.map_set]]
  exact h1
theorem row_len (l : List Rc) (i : Nat) (y : Rc) : (rowM l i y).length ≤ i := by
  unfold rowM
  exact Nat.le_trans (List.length_filter_le _ _) (by simp)
theorem ss_mem {v : Value} {G x : Nat} (h : ∀ q, v.ownBlock = some q → G + 2 ≤ q) (hx : x ∈ v.ownBlock.toList ++ [G + 1]) : G + 1 ≤ x ∧ (v.ownBlock = some x ∨ x = G + 1) := by
  rw [List.mem_append] at hx
  rcases hx with hx | hx
  · have hx' : v.ownBlock = some x := by simpa using hx
    have := h x hx'
    exact ⟨by omega, .inl hx'⟩
  · simp at hx
    exact ⟨by omega, .inr hx⟩
theorem blk_ex {w : World} {G : Nat} {T : TypeId} {xs : List Int} (h : Blk w G T (ints .i64 xs).toArray) {j : Nat} (hj : j < xs.length) : ∃ x : Int, w.cell? ⟨G, j, none⟩ = some (.int .i64 x) := by
  refine ⟨xs[j], ?_⟩
  rw [h.cell]
  simp [ints, hj]
theorem slice_one (g o n c : Nat) (hn : 1 ≤ n) (hc : n ≤ c) (W : World) : (Instr.sliceAt 29 (.slice (some ⟨g, o, none⟩) n c) (some (.int .i64 1)) none none).run Try.prog W = .ok (tailV (some ⟨g, o, none⟩) n c) W := by
  obtain ⟨i, hi, hz, hs1, hby⟩ := info_int
  simp [Instr.sliceAt, Instr.slice, Instr.sliceBounds, Instr.sliceBound, run_underlying Try.underlying29, go_sem, asIntOf, sizeOf, typeInfo, hi, hs1, tailV]
  intro h
  exact absurd h (by omega)
def MatchPost (l : List Rc) (w : World) (e : Ending) (w' : World) : Prop := ∃ v, e = .returned v ∧ Rd w' [] v (ints .i64 (matchM l)) ∧ Only [] w w'
set_option maxRecDepth 100000 in
set_option maxHeartbeats 12800000 in
theorem Match_any (w : World) (A : Option Addr) (cap : Nat) (L : List (Rc × Value)) (hL : RdS 5 rkC w [] (.slice A L.length cap) L) (hfit : ∀ r ∈ L, RkFit w r) (hl : L.length ≤ 60) (hb : ∀ r ∈ L, r.1.b.length ≤ 100) :
    Calls Try.prog 6 #[.slice A L.length cap] w (MatchPost (L.map Prod.fst) w) := by
  obtain ⟨n, hn⟩ : ∃ n, n = L.length := ⟨_, rfl⟩
  obtain ⟨l, hll⟩ : ∃ l, l = L.map Prod.fst := ⟨_, rfl⟩
  have HLN := hide (show l.length = n by rw [hll, hn, List.length_map])
  have HN := hide hn
  have HLL := hide hll
  rw [← hn] at hL hl ⊢
  rw [← hll]
  have HL := hide hL
  have HFIT := hide hfit
  have HB := hide hb
  obtain ⟨i0, hi, hz0, hz1, hz2⟩ := info_int
  have hmk : ∀ W, (Instr.makeSlice 29 (.int .i64 (n : Int)) (.int .i64 (n : Int))).run Try.prog W = .ok (.slice (some ⟨W.heap.size, 0, none⟩) n n) (W.alloc (.cells (Array.replicate n (.int .i64 0)) 3)) := by
    intro W
    exact run_make_row W 29 3 i0 _ Try.underlying29 hi hz0 hz1 rfl .i64 .i64 n n (Nat.le_refl _) (by rw [hz2]; omega) (by omega)
  have HO0 := hide (((Only.refl [] w).alloc (.cells (Array.replicate n (.int .i64 0)) 3)).alloc (.map #[] 0))
  have HP0 := hide ((Blk.new w 3 (Array.replicate n (.int .i64 0))).alloc (.map #[] 0))
  have HM0 := hide (MInv.start (l := l) (w.alloc (.cells (Array.replicate n (.int .i64 0)) 3)) w.heap.size (World.size_alloc _ _))
  have hmm := @run_makeMap Try.prog
  clear hL hfit hb hn hll hi hz0 hz1 hz2
  go_enter Try.func6, Try.ntmps6
  go_wp2_with fail
  generalize ((w.alloc (.cells (Array.replicate n (.int .i64 0)) 3)).alloc (.map #[] 0)) = w0 at *
  obtain ⟨G, hG⟩ : ∃ G, G = w.heap.size := ⟨_, rfl⟩
  rw [← hG] at HP0 HM0 ⊢
  have HG := hide hG
  clear hG hmk hmm
  go_loopw [17] (fun iv wr => ∃ (i m : Nat) (F : Value → Value), i ≤ n ∧ m ≤ i ∧ iv = .int .i64 i ∧ Hid (Blk wr G 3 (ints .i64 (partN l i)).toArray) ∧ Hid (MInv l G i m F wr) ∧ Hid (Only [] w wr)) (fun iv _ => n - (intOf iv).toNat)
  case atStart => exact ⟨0, 0, _, Nat.zero_le _, Nat.le_refl _, rfl, hide (by rw [partN_zero, HLN.out]; have h := HP0.out; simpa [ints] using h), HM0, HO0⟩
  case round =>
    obtain ⟨i, m, F, hin, hmi, rfl, HPT, HMI, HO⟩ := hrel
    by_cases hi : i < n
    case neg =>
      obtain rfl : i = n := by omega
      have hnI : ¬ (i : Int) < (i : Int) := by omega
      go_wp2_with fail
      go_ret
      refine ⟨_, rfl, ?_, HO.out⟩
      have h := HPT.out
      rw [← HLN.out, partN_end] at h
      have h2 := rd_of_blkB h [] (by simp) (by have := matchM_len l; have := HLN.out; simp [ints, this]; unfold maxLen; omega)
      rw [show (ints .i64 (matchM l)).length = i by have := matchM_len l; have := HLN.out; simp [ints]; omega] at h2
      exact h2
    case pos =>
      have hiI : (i : Int) < (n : Int) := by omega
      obtain ⟨r, hr⟩ : ∃ r, L[i]? = some r := ⟨_, List.getElem?_eq_getElem (by rw [← HN.out]; exact hi)⟩
      obtain ⟨⟨k, a, p, b, nw⟩, v⟩ := r
      have hmem := List.mem_of_getElem? hr
      have HLI := hide hr
      have HY := hide (show l[i]? = some ⟨k, a, p, b, nw⟩ by rw [HLL.out, List.getElem?_map, hr]; rfl)
      obtain ⟨hrd, wk, wa, wp, _⟩ := HFIT.out _ hmem
      have hb100 := HB.out _ hmem
      simp only at hrd wk wa wp hb100
      obtain ⟨g, o, hA, _, hglt⟩ := HL.out.addr (by have := HN.out; omega)
      subst hA
      have HG5 := hide (rec_get hr (HL.out.only HO.out (by simp)))
      have HRD := hide (hrd.only HO.out (by simp))
      obtain ⟨Av, cv, rfl, _, _⟩ := hrd.formb
      have HW := hide (And.intro wa wp)
      have HB100 := hide hb100
      clear hmem hrd wk wa wp hb100 hr
      obtain ⟨nb, hnb⟩ : ∃ q, q = b.length := ⟨_, rfl⟩
      rw [← hnb] at HG5 HRD HB100 HLI
      have HNB := hide hnb
      clear hnb
      have HR := hide (Blk.new wr 26 #[.int .i64 k, .int .i64 a, .int .i64 p, .slice Av nb cv, .int .i64 nw])
      have HOR := hide ((Only.refl [] wr).alloc (.cells #[.int .i64 k, .int .i64 a, .int .i64 p, .slice Av nb cv, .int .i64 nw] 26))
      have HGT := hide (show G + 2 ≤ wr.heap.size from (by have h := HMI.out.wait.lt; omega))
      obtain ⟨x0, hx0⟩ := part_cell HPT.out (by rw [HLN.out]; exact hin) (show i < l.length by rw [HLN.out]; exact hi)
      have HX0 := hide hx0
      clear hx0
      obtain ⟨c0, c1, c2, c3, c4⟩ := HG5.out
      simp only at c0 c1 c2 c3 c4
      go_upto_region 6 with fail
      generalize (wr.alloc (.cells #[.int .i64 k, .int .i64 a, .int .i64 p, .slice Av nb cv, .int .i64 nw] 26)) = w1 at *
      have HPT1 := hide (HPT.out.only HOR.out (by simp))
      have HMI1 := hide (HMI.out.only HOR.out (by simp))
      have HRD1 := hide (HRD.out.only HOR.out (by simp))
      have x0 := HX0.out
      replace x0 := (cell_only HOR.out HPT.out.lt (by simp)).trans x0
      have xf := HPT1.out.frozen i
      clear c0 c1 c2 c3 c4
      go_upto_region 7 with fail
      have HOS := hide ((Only.refl [G] w1).setCell (p := ⟨G, i, none⟩) (.inl (by simp)) (.int .i64 (-1)))
      have HOO := hide (((HO.out.trans HOR.out).setCell (p := ⟨G, i, none⟩) (.inr (by rw [HG.out]; exact Nat.le_refl _)) (.int .i64 (-1))))
      have HPT2 := hide (blk_set HPT1.out i (-1))
      have HMI2 := hide (HMI1.out.only HOS.out (by simp))
      have HNE := hide (show wr.heap.size ≠ G by have := HGT.out; omega)
      have HR2 := hide (HR.out.only HOS.out (by have := HNE.out; simpa using this))
      have HRD2 := hide (HL.out.form)
      clear HRD2
      have HRV := hide ((HFIT.out _ (List.mem_of_getElem? (show L[i]? = some (⟨k, a, p, b, nw⟩, .slice Av nb cv) from HLI.out))).1.only HOO.out (by simp))
      have HGT2 := hide (show wr.heap.size < (w1.setCell ⟨G, i, none⟩ (.int .i64 (-1))).heap.size from HR2.out.lt)
      generalize (w1.setCell ⟨G, i, none⟩ (.int .i64 (-1))) = w2 at *
      clear HPT1 HMI1 HRD1 HPT HMI HR HOS HOR HO x0 xf HRD HX0
      obtain ⟨r0, r1, r2, r3, r4⟩ := cells5 HR2.out
      have KFL := hide (fun W => flowOf_any W k a p nw b (.slice Av nb cv))
      unfold FlowPost at KFL
      rcases Decidable.em (k = 1) with hk | hk
      · have hf : flowV ⟨k, a, p, b, nw⟩ = (a, p, true) := if_pos hk
        rw [hf] at KFL
        have t1 : (k == 1) = true := by rw [beq_iff_eq]; exact hk
        have HK := hide hk
        clear hf hk
        go_upto_region 8 with (go_at_call 15; refine (KFL.out _).mono ?_; rintro e w3 ⟨rfl, ho⟩; have HO3 := hide ho; clear ho r0 r1 r2 r3 r4)
        have HY4 := hide (Blk.new w3 43 #[.int .i64 a, .int .i64 p])
        have HO4 := hide (HO3.out.alloc (.cells #[.int .i64 a, .int .i64 p] 43))
        have HGY := hide (Nat.lt_of_lt_of_le HGT2.out HO3.out.size)
        obtain ⟨Y, hY⟩ : ∃ Y, Y = w3.heap.size := ⟨_, rfl⟩
        rw [← hY] at HY4 HGY ⊢
        generalize (w3.alloc (.cells #[.int .i64 a, .int .i64 p] 43)) = w4 at *
        clear hY
        have HR4 := hide (HR2.out.only HO4.out (by simp))
        have HRV4 := hide (HRV.out.only HO4.out (by simp))
        have hcv := rd_string (P := Try.prog) HRV4.out 24 9 5 Try.underlying24 Try.underlying5 Try.underlying9
        obtain ⟨s, hs⟩ : ∃ s : ByteArray, s = ⟨b.toArray⟩ := ⟨_, rfl⟩
        rw [← hs] at hcv
        have HS := hide (show s.data.toList = b by rw [hs])
        have HSS := hide (show s.size ≤ maxLen by have h1 := HB100.out; have h2 := HNB.out; rw [hs]; show b.toArray.size ≤ maxLen; rw [List.size_toArray]; unfold maxLen; omega)
        clear hs
        obtain ⟨-, -, -, r3, -⟩ := cells5 HR4.out
        have y0 : w4.cell? ⟨Y, 0, none⟩ = some (.int .i64 a) := HY4.out.cell 0
        have y1 : w4.cell? ⟨Y, 1, none⟩ = some (.int .i64 p) := HY4.out.cell 1
        go_upto_region 10 with fail
        have HZ5 := hide (Blk.new w4 47 #[.int .i64 a, .int .i64 p, .string s])
        have HO5 := hide (HO4.out.alloc (.cells #[.int .i64 a, .int .i64 p, .string s] 47))
        have HGZ := hide (Nat.lt_trans HGY.out HY4.out.lt)
        obtain ⟨Z, hZ⟩ : ∃ Z, Z = w4.heap.size := ⟨_, rfl⟩
        rw [← hZ] at HZ5 HGZ ⊢
        have HZW := hide (show w2.heap.size ≤ Z by rw [hZ]; exact HO4.out.size)
        generalize (w4.alloc (.cells #[.int .i64 a, .int .i64 p, .string s] 47)) = w5 at *
        clear hZ y0 y1 r3 hcv HY4 HR4 HRV4
        have HR5 := hide (HR2.out.only HO5.out (by simp))
        have HPT5 := hide (HPT2.out.only HO5.out (by simp))
        have HMI5 := hide (HMI2.out.only HO5.out (by simp))
        have HOW := hide (HOO.out.trans HO5.out)
        obtain ⟨r0, -, -, -, -⟩ := cells5 HR5.out
        have z0 : w5.cell? ⟨Z, 0, none⟩ = some (.int .i64 a) := HZ5.out.cell 0
        have z1 : w5.cell? ⟨Z, 1, none⟩ = some (.int .i64 p) := HZ5.out.cell 1
        have z2 : w5.cell? ⟨Z, 2, none⟩ = some (.string s) := HZ5.out.cell 2
        obtain ⟨fv, hfv⟩ : ∃ fv, fv = F (keyR a p s) := ⟨_, rfl⟩
        have HFV := hide hfv
        go_upto_region 12 with (at_lookup; refine wpList_wait_look _ rfl (.tmp 37) (.tmp 38) rfl rfl rfl HMI5.out.wait HW.out.1 HW.out.2 HSS.out ?_; rw [← hfv]; clear hfv)
        have HROW := hide (show RowAt w5 (G + 2) fv (rowM l i ⟨2, p, a, s.data.toList, 0⟩) from HFV.out ▸ HMI5.out.rows a p s)
        have hown : ∀ q, fv.ownBlock = some q → G + 2 ≤ q := fun q hq => (HROW.out.block_lt hq).1
        have HSS2 := hide (fun x (hx : x ∈ fv.ownBlock.toList ++ [G + 1]) => (ss_mem hown hx).1)
        have HZN := hide (show Z ∉ fv.ownBlock.toList ++ [G + 1] by
          intro hx
          rcases (ss_mem hown hx).2 with h | h
          · have h1 := (HFV.out ▸ HMI2.out.rows a p s : RowAt w2 (G + 2) fv _).block_lt h
            have h2 := HZW.out
            omega
          · have h1 := HGZ.out
            have h2 := HGT.out
            omega)
        clear hown
        obtain ⟨SS, hSS⟩ : ∃ SS, SS = fv.ownBlock.toList ++ [G + 1] := ⟨_, rfl⟩
        rw [← hSS] at HZN HSS2
        have HSE := hide hSS
        clear hSS z0 z1 z2 r0
        have HMD := hide (HMI5.out.only ((Only.refl [] w5).drew) (by simp))
        have HRW := hide (HROW.out.only ((Only.refl [] w5).drew) (by simp))
        have HSZ := hide (show w5.heap.size = w5.drew.heap.size from rfl)
        refine wp_region_held_drew (S := fun W => Only SS w5 W) (by kernel_rfl) (by exact (Only.refl SS w5).drew) (fun hHeld => ?_)
        generalize w5.drew = wd at *
        refine wpAnyH_take (i := 0) (v := ?_) rfl (by kernel_rfl) (by kernel_rfl) (by kernel_rfl) (fun _ _ _ h => h) (Or.inl ⟨by rfl, ?_⟩) (by assumption) ?_
        rotate_left
        · (intro w hSw; (try dsimp only at hSw); go_simp; try with_reducible rfl)
        try simp only [List.getElem_toArray, List.getElem_cons_succ, List.getElem_cons_zero, Act.put, List.setIfInBounds_toArray, List.set_cons_zero, List.set_cons_succ]
        refine wpAnyH_take (i := 1) (v := ?_) rfl (by kernel_rfl) (by kernel_rfl) (by kernel_rfl) (fun _ _ _ h => h) (Or.inl ⟨by rfl, ?_⟩) (by assumption) ?_
        rotate_left
        · (intro w hSw; (try dsimp only at hSw); have HZw := HZ5.out.only hSw HZN.out; have z0 : w.cell? ⟨Z, 0, none⟩ = some (.int .i64 a) := HZw.cell 0; have z1 : w.cell? ⟨Z, 1, none⟩ = some (.int .i64 p) := HZw.cell 1; have z2 : w.cell? ⟨Z, 2, none⟩ = some (.string s) := HZw.cell 2; clear HZw; go_simp; try with_reducible rfl)
        try simp only [List.getElem_toArray, List.getElem_cons_succ, List.getElem_cons_zero, Act.put, List.setIfInBounds_toArray, List.set_cons_zero, List.set_cons_succ]
        refine wpAnyH_take (i := 2) (v := ?_) rfl (by kernel_rfl) (by kernel_rfl) (by kernel_rfl) (fun _ _ _ h => h) (Or.inl ⟨by rfl, ?_⟩) (by assumption) ?_
        rotate_left
        · (intro w hSw; (try dsimp only at hSw); go_simp; try with_reducible rfl)
        try simp only [List.getElem_toArray, List.getElem_cons_succ, List.getElem_cons_zero, Act.put, List.setIfInBounds_toArray, List.set_cons_zero, List.set_cons_succ]
        refine wpAnyH_take (i := 3) (v := ?_) rfl (by kernel_rfl) (by kernel_rfl) (by kernel_rfl) (fun _ _ _ h => h) (Or.inl ⟨by rfl, ?_⟩) (by assumption) ?_
        rotate_left
        · (intro w hSw; (try dsimp only at hSw); go_simp; try with_reducible rfl)
        try simp only [List.getElem_toArray, List.getElem_cons_succ, List.getElem_cons_zero, Act.put, List.setIfInBounds_toArray, List.set_cons_zero, List.set_cons_succ]
        refine wpAnyH_ready (rs := [4]) (by kernel_rfl) (by simp) ?_
        refine (AllReadyH.cons rfl (fun K hK => ?_) AllReadyH.nil)
        go_simp
        refine hK.out _ _ (by exact hHeld.alloc _) (fun hN => ?_)
        clear hK K hHeld
        have hHeld := hN
        clear hN
        try simp only [List.getElem_toArray, List.getElem_cons_succ, List.getElem_cons_zero, Act.put, List.setIfInBounds_toArray, List.set_cons_zero, List.set_cons_succ]
        have HIB := hide (Blk.new wd 3 #[.int .i64 (i : Int)])
        replace HMD := hide (HMD.out.only ((Only.refl [] wd).alloc (.cells #[.int .i64 (i : Int)] 3)) (by simp))
        replace HRW := hide (HRW.out.only ((Only.refl [] wd).alloc (.cells #[.int .i64 (i : Int)] 3)) (by simp))
        obtain ⟨B, hB⟩ : ∃ B, B = wd.heap.size := ⟨_, rfl⟩
        rw [← hB] at HIB ⊢
        clear hB
        generalize (wd.alloc (.cells #[.int .i64 (i : Int)] 3)) = wb at *
        refine wpAnyH_ready (rs := [5]) (by kernel_rfl) (by simp) ?_
        refine (AllReadyH.cons rfl (fun K hK => ?_) AllReadyH.nil)
        rw [if_pos (by rfl)]
        refine wp_row_append (.tmp 45) (.tmp 47) rfl (G + 2) fv _ rfl HRW.out (by have := row_len l i ⟨2, p, a, s.data.toList, 0⟩; omega) (by have := HMD.out.wait.lt; omega) ⟨B, 0, none⟩ 1 i rfl (HIB.out.cell 0) (fun v6 w6 h1 h2 h3 => ?_)
        have HO6 := hide (show Only SS w5 w6 from hHeld.grown h2 (fun q hq => .inl (by rw [HSE.out]; simp [hq])))
        refine hK.out _ _ (by exact HO6.out) (fun hN => ?_)
        clear hK K hHeld
        have hHeld := hN
        clear hN
        try simp only [List.getElem_toArray, List.getElem_cons_succ, List.getElem_cons_zero, Act.put, List.setIfInBounds_toArray, List.set_cons_zero, List.set_cons_succ]
        obtain ⟨d6, hd6⟩ := sliceEl_row h1
        have HWT6 := hide (show WaitIs (G + 1) m F w6 from HMD.out.wait.only (S := fv.ownBlock.toList) ((Only.refl _ wb).grown h2 (fun q hq => .inl (by simp [hq]))) (by intro hx; have := (HRW.out.block_lt (show fv.ownBlock = some (G + 1) by simpa using hx)).1; omega))
        have H1 := hide h1
        have H2 := hide h2
        have H3 := hide h3
        have HD6 := hide hd6
        clear h1 h2 h3 hd6 HO6
        refine wpAnyH_ready (rs := [6]) (by kernel_rfl) (by simp) ?_
        refine (AllReadyH.cons rfl (fun K hK => ?_) AllReadyH.nil)
        rw [if_pos (by rfl)]
        refine wp_wait_upd (.tmp 43) (.tmp 44) (.tmp 48) rfl rfl rfl HWT6.out HW.out.1 HW.out.2 HSS.out (by unfold maxLen; omega) v6 rfl HD6.out (fun w7 F7 g1 g2 g3 g4 => ?_)
        have HO7 := hide (show Only SS w5 w7 from hHeld.grown g4 (fun q hq => .inl (by rw [HSE.out]; cases hq; simp)))
        refine hK.out _ _ (by exact HO7.out) (fun hN => ?_)
        clear hK K hHeld
        have hHeld := hN
        clear hN
        try simp only [List.getElem_toArray, List.getElem_cons_succ, List.getElem_cons_zero, Act.put, List.setIfInBounds_toArray, List.set_cons_zero, List.set_cons_succ]
        refine wpAnyH_done (by kernel_rfl) ?_ _
        have HM7 := hide (HMD.out.take ⟨k, a, p, b, nw⟩ HY.out (by rw [HLN.out]; exact hi) HK.out HS.out H1.out (by rw [← HFV.out]; exact H2.out) (by rw [← HFV.out]; exact H3.out) g1 g2 g3 g4)
        have HP7 := hide (HPT5.out.only HO7.out (by intro hx; have := HSS2.out G hx; omega))
        have HO8 := hide (((HOW.out.mono (S' := SS) (by simp)).trans HO7.out).mono (S' := []) (fun x hx => .inr (by have := HSS2.out x hx; have := HG.out; omega)))
        have HPE := hide (partN_step (l := l) (i := i) (by rw [HLN.out]; exact hi) (step_none l i ⟨k, a, p, b, nw⟩ HY.out (by have := HK.out; simp only; omega)))
        rw [HPE.out] at HP7
        clear g1 g2 g3 g4 HO7
        go_wp2_with fail
        exact ⟨⟨i + 1, m + 1, F7, by omega, by omega, congrArg (Value.int .i64) (by omega), HP7, HM7, HO8⟩, by simp only [intOf]; omega⟩
      · have t1 : (k == 1) = false := by rw [beq_eq_false_iff_ne]; exact hk
        rcases Decidable.em (k = 2) with hk2 | hk2
        · have hf : flowV ⟨k, a, p, b, nw⟩ = (p, a, true) := by unfold flowV; rw [if_neg hk, if_pos hk2]
          rw [hf] at KFL
          have HK := hide hk2
          clear hf hk hk2
          go_upto_region 8 with (go_at_call 15; refine (KFL.out _).mono ?_; rintro e w3 ⟨rfl, ho⟩; have HO3 := hide ho; clear ho r0 r1 r2 r3 r4)
          have HY4 := hide (Blk.new w3 43 #[.int .i64 p, .int .i64 a])
          have HO4 := hide (HO3.out.alloc (.cells #[.int .i64 p, .int .i64 a] 43))
          have HGY := hide (Nat.lt_of_lt_of_le HGT2.out HO3.out.size)
          obtain ⟨Y, hY⟩ : ∃ Y, Y = w3.heap.size := ⟨_, rfl⟩
          rw [← hY] at HY4 HGY ⊢
          generalize (w3.alloc (.cells #[.int .i64 p, .int .i64 a] 43)) = w4 at *
          clear hY
          have HR4 := hide (HR2.out.only HO4.out (by simp))
          have HRV4 := hide (HRV.out.only HO4.out (by simp))
          have hcv := rd_string (P := Try.prog) HRV4.out 24 9 5 Try.underlying24 Try.underlying5 Try.underlying9
          obtain ⟨s, hs⟩ : ∃ s : ByteArray, s = ⟨b.toArray⟩ := ⟨_, rfl⟩
          rw [← hs] at hcv
          have HS := hide (show s.data.toList = b by rw [hs])
          have HSS := hide (show s.size ≤ maxLen by have h1 := HB100.out; have h2 := HNB.out; rw [hs]; show b.toArray.size ≤ maxLen; rw [List.size_toArray]; unfold maxLen; omega)
          clear hs
          obtain ⟨-, -, -, r3, -⟩ := cells5 HR4.out
          have y0 : w4.cell? ⟨Y, 0, none⟩ = some (.int .i64 p) := HY4.out.cell 0
          have y1 : w4.cell? ⟨Y, 1, none⟩ = some (.int .i64 a) := HY4.out.cell 1
          go_upto_region 10 with fail
          have HZ5 := hide (Blk.new w4 47 #[.int .i64 p, .int .i64 a, .string s])
          have HO5 := hide (HO4.out.alloc (.cells #[.int .i64 p, .int .i64 a, .string s] 47))
          have HGZ := hide (Nat.lt_trans HGY.out HY4.out.lt)
          obtain ⟨Z, hZ⟩ : ∃ Z, Z = w4.heap.size := ⟨_, rfl⟩
          rw [← hZ] at HZ5 HGZ ⊢
          have HZW := hide (show w2.heap.size ≤ Z by rw [hZ]; exact HO4.out.size)
          generalize (w4.alloc (.cells #[.int .i64 p, .int .i64 a, .string s] 47)) = w5 at *
          clear hZ y0 y1 r3 hcv HY4 HR4 HRV4
          have HR5 := hide (HR2.out.only HO5.out (by simp))
          have HPT5 := hide (HPT2.out.only HO5.out (by simp))
          have HMI5 := hide (HMI2.out.only HO5.out (by simp))
          have HOW := hide (HOO.out.trans HO5.out)
          obtain ⟨r0, -, -, -, -⟩ := cells5 HR5.out
          have z0 : w5.cell? ⟨Z, 0, none⟩ = some (.int .i64 p) := HZ5.out.cell 0
          have z1 : w5.cell? ⟨Z, 1, none⟩ = some (.int .i64 a) := HZ5.out.cell 1
          have z2 : w5.cell? ⟨Z, 2, none⟩ = some (.string s) := HZ5.out.cell 2
          obtain ⟨fv, hfv⟩ : ∃ fv, fv = F (keyR p a s) := ⟨_, rfl⟩
          have HFV := hide hfv
          have HROW := hide (show RowAt w5 (G + 2) fv (rowM l i ⟨2, a, p, s.data.toList, 0⟩) from HFV.out ▸ HMI5.out.rows p a s)
          have hrowe : rowM l i ⟨2, a, p, s.data.toList, 0⟩ = rowM l i ⟨k, a, p, b, nw⟩ := by rw [HS.out]; rfl
          rw [hrowe] at HROW
          clear hrowe
          cases hrw : rowM l i ⟨k, a, p, b, nw⟩ with
          | nil =>
            have he := HROW.out
            rw [hrw] at he
            obtain ⟨Ae, ce, rfl⟩ : ∃ Ae ce, fv = .slice Ae 0 ce := by
              rcases he with ⟨rfl, _⟩ | ⟨g2, o2, c2, _, rfl, _⟩
              · exact ⟨_, _, rfl⟩
              · exact ⟨_, _, rfl⟩
            have HRW0 := hide hrw
            clear he hrw
            go_upto_region 13 with (at_lookup; refine wpList_wait_look _ rfl (.tmp 37) (.tmp 38) rfl rfl rfl HMI5.out.wait HW.out.2 HW.out.1 HSS.out ?_; rw [← hfv]; clear hfv)
            have HES := hide (step_nil l i ⟨k, a, p, b, nw⟩ HY.out HK.out HRW0.out)
            have HM7 := hide (HMI5.out.same ⟨k, a, p, b, nw⟩ HY.out (by have := HK.out; simp only; omega) HES.out)
            have HPE := hide (partN_step (l := l) (i := i) (by rw [HLN.out]; exact hi) HES.out)
            rw [HPE.out] at HPT5
            go_wp2_with fail
            exact ⟨⟨i + 1, m, F, by omega, by omega, congrArg (Value.int .i64) (by omega), HPT5, HM7, HOW⟩, by simp only [intOf]; omega⟩
          | cons k0 rr =>
            have he := HROW.out
            rw [hrw] at he
            obtain ⟨g2, o2, c2, rfl, ht1, ht2, hc0, hc1⟩ := he.tail
            have HTL := hide ht1
            have HTB := hide ht2
            have HRW0 := hide hrw
            have HC0 := hide hc0
            clear he ht1 ht2
            have hk0 : k0 < i := row_lt (y := ⟨k, a, p, b, nw⟩) (by rw [hrw]; exact List.mem_cons_self)
            clear hrw
            have hG2 := (HROW.out.block_lt (show (Value.slice (some ⟨g2, o2, none⟩) (rr.length + 1) c2).ownBlock = some g2 from rfl))
            have HG2 := hide hG2
            clear hG2
            obtain ⟨nr, hnr⟩ : ∃ q, q = rr.length := ⟨_, rfl⟩
            rw [← hnr] at HTL HTB HROW HFV hfv hc1
            have HNR := hide hnr
            clear hnr
            have hlenI : (0 : Int) < ((nr + 1 : Nat) : Int) := by omega
            go_upto_region 14 with (at_lookup; refine wpList_wait_look _ rfl (.tmp 37) (.tmp 38) rfl rfl rfl HMI5.out.wait HW.out.2 HW.out.1 HSS.out ?_; rw [← hfv]; clear hfv)
            have hlp : ((partN l i).set i (-1)).length = n := by rw [List.length_set, partN_len (by rw [HLN.out]; exact hin), HLN.out]
            obtain ⟨xi, hxi⟩ := blk_ex HPT5.out (show i < ((partN l i).set i (-1)).length by omega)
            obtain ⟨xk, hxk⟩ := blk_ex HPT5.out (show k0 < ((partN l i).set i (-1)).length by omega)
            have fi := HPT5.out.frozen i
            have fk := HPT5.out.frozen k0
            have hk0n : (k0 : Int) < (n : Int) := by omega
            have hq0 := HC0.out
            have HLP := hide hlp
            have HXI := hide hxi
            have HXK := hide hxk
            have HHK := hide hk0
            have HG2N := hide (show g2 ∉ [G] by have := HG2.out; simp; omega)
            have HPD := hide (HPT5.out.only ((Only.refl [] w5).drew) (by simp))
            clear hlp r0 z0 z1 z2 hxi hxk fi fk hq0
            refine wp_region_held_drew (S := fun W => Only [G] w5 W) (by kernel_rfl) (by exact (Only.refl [G] w5).drew) (fun hHeld => ?_)
            generalize w5.drew = wd at *
            refine wpAnyH_take (i := 0) (v := ?_) rfl (by kernel_rfl) (by kernel_rfl) (by kernel_rfl) (fun _ _ _ h => h) (Or.inl ⟨by rfl, ?_⟩) (by assumption) ?_
            rotate_left
            · (intro w hSw; (try dsimp only at hSw); go_simp; try with_reducible rfl)
            try simp only [List.getElem_toArray, List.getElem_cons_succ, List.getElem_cons_zero, Act.put, List.setIfInBounds_toArray, List.set_cons_zero, List.set_cons_succ]
            refine wpAnyH_take (i := 1) (v := ?_) rfl (by kernel_rfl) (by kernel_rfl) (by kernel_rfl) (fun _ _ _ h => h) (Or.inl ⟨by rfl, ?_⟩) (by assumption) ?_
            rotate_left
            · (intro w hSw; (try dsimp only at hSw); go_simp; try with_reducible rfl)
            try simp only [List.getElem_toArray, List.getElem_cons_succ, List.getElem_cons_zero, Act.put, List.setIfInBounds_toArray, List.set_cons_zero, List.set_cons_succ]
            refine wpAnyH_take (i := 2) (v := ?_) rfl (by kernel_rfl) (by kernel_rfl) (by kernel_rfl) (fun _ _ _ h => h) (Or.inl ⟨by rfl, ?_⟩) (by assumption) ?_
            rotate_left
            · (intro w hSw; (try dsimp only at hSw); go_simp; try with_reducible rfl)
            try simp only [List.getElem_toArray, List.getElem_cons_succ, List.getElem_cons_zero, Act.put, List.setIfInBounds_toArray, List.set_cons_zero, List.set_cons_succ]
            refine wpAnyH_take (i := 3) (v := ?_) rfl (by kernel_rfl) (by kernel_rfl) (by kernel_rfl) (fun _ _ _ h => h) (Or.inl ⟨by rfl, ?_⟩) (by assumption) ?_
            rotate_left
            · (intro w hSw; (try dsimp only at hSw); go_simp; try with_reducible rfl)
            try simp only [List.getElem_toArray, List.getElem_cons_succ, List.getElem_cons_zero, Act.put, List.setIfInBounds_toArray, List.set_cons_zero, List.set_cons_succ]
            refine wpAnyH_take (i := 4) (v := ?_) rfl (by kernel_rfl) (by kernel_rfl) (by kernel_rfl) (fun _ _ _ h => h) (Or.inl ⟨by rfl, ?_⟩) (by assumption) ?_
            rotate_left
            · (intro w hSw; (try dsimp only at hSw); go_simp; try with_reducible rfl)
            try simp only [List.getElem_toArray, List.getElem_cons_succ, List.getElem_cons_zero, Act.put, List.setIfInBounds_toArray, List.set_cons_zero, List.set_cons_succ]
            refine wpAnyH_take (i := 5) (v := ?_) rfl (by kernel_rfl) (by kernel_rfl) (by kernel_rfl) (fun _ _ _ h => h) (Or.inl ⟨by rfl, ?_⟩) (by assumption) ?_
            rotate_left
            · (intro w hSw; (try dsimp only at hSw); have hq0 : w.cell? ⟨g2, o2, none⟩ = some (.int .i64 k0) := (cell_only hSw HG2.out.2 HG2N.out).trans HC0.out; go_simp; try with_reducible rfl)
            try simp only [List.getElem_toArray, List.getElem_cons_succ, List.getElem_cons_zero, Act.put, List.setIfInBounds_toArray, List.set_cons_zero, List.set_cons_succ]
            refine wpAnyH_take (i := 6) (v := ?_) rfl (by kernel_rfl) (by kernel_rfl) (by kernel_rfl) (fun _ _ _ h => h) (Or.inl ⟨by rfl, ?_⟩) (by assumption) ?_
            rotate_left
            · (intro w hSw; (try dsimp only at hSw); go_simp; try with_reducible rfl)
            try simp only [List.getElem_toArray, List.getElem_cons_succ, List.getElem_cons_zero, Act.put, List.setIfInBounds_toArray, List.set_cons_zero, List.set_cons_succ]
            refine wpAnyH_take (i := 7) (v := ?_) rfl (by kernel_rfl) (by kernel_rfl) (by kernel_rfl) (fun _ _ _ h => h) (Or.inl ⟨by rfl, ?_⟩) (by assumption) ?_
            rotate_left
            · (intro w hSw; (try dsimp only at hSw); go_simp; try with_reducible rfl)
            try simp only [List.getElem_toArray, List.getElem_cons_succ, List.getElem_cons_zero, Act.put, List.setIfInBounds_toArray, List.set_cons_zero, List.set_cons_succ]
            refine wpAnyH_take (i := 8) (v := ?_) rfl (by kernel_rfl) (by kernel_rfl) (by kernel_rfl) (fun _ _ _ h => h) (Or.inl ⟨by rfl, ?_⟩) (by assumption) ?_
            rotate_left
            · (intro w hSw; (try dsimp only at hSw); have hq0 : w.cell? ⟨g2, o2, none⟩ = some (.int .i64 k0) := (cell_only hSw HG2.out.2 HG2N.out).trans HC0.out; go_simp; try with_reducible rfl)
            try simp only [List.getElem_toArray, List.getElem_cons_succ, List.getElem_cons_zero, Act.put, List.setIfInBounds_toArray, List.set_cons_zero, List.set_cons_succ]
            refine wpAnyH_take (i := 9) (v := ?_) rfl (by kernel_rfl) (by kernel_rfl) (by kernel_rfl) (fun _ _ _ h => h) (Or.inl ⟨by rfl, ?_⟩) (by assumption) ?_
            rotate_left
            · (intro w hSw; (try dsimp only at hSw); go_simp; try with_reducible rfl)
            try simp only [List.getElem_toArray, List.getElem_cons_succ, List.getElem_cons_zero, Act.put, List.setIfInBounds_toArray, List.set_cons_zero, List.set_cons_succ]
            refine wpAnyH_take (i := 10) (v := ?_) rfl (by kernel_rfl) (by kernel_rfl) (by kernel_rfl) (fun _ _ _ h => h) (Or.inl ⟨by rfl, ?_⟩) (by assumption) ?_
            rotate_left
            · (intro w hSw; (try dsimp only at hSw); go_simp; try with_reducible rfl)
            try simp only [List.getElem_toArray, List.getElem_cons_succ, List.getElem_cons_zero, Act.put, List.setIfInBounds_toArray, List.set_cons_zero, List.set_cons_succ]
            refine wpAnyH_ready (rs := [11]) (by kernel_rfl) (by simp) ?_
            refine (AllReadyH.cons rfl (fun K hK => ?_) AllReadyH.nil)
            rw [if_pos (by rfl)]
            obtain ⟨xi, hxi⟩ := blk_ex HPD.out (show i < ((partN l i).set i (-1)).length by have := HLP.out; omega)
            have fi := HPD.out.frozen i
            go_simp
            clear hxi fi
            refine hK.out _ _ (by exact hHeld.setCell (.inl (by simp)) _) (fun hN => ?_)
            clear hK K hHeld
            have hHeld := hN
            clear hN
            try simp only [List.getElem_toArray, List.getElem_cons_succ, List.getElem_cons_zero, Act.put, List.setIfInBounds_toArray, List.set_cons_zero, List.set_cons_succ]
            replace HPD := hide (blk_set HPD.out i (k0 : Int))
            generalize (wd.setCell ⟨G, i, none⟩ (.int .i64 (k0 : Int))) = we at *
            refine wpAnyH_take (i := 12) (v := ?_) rfl (by kernel_rfl) (by kernel_rfl) (by kernel_rfl) (fun _ _ _ h => h) (Or.inl ⟨by rfl, ?_⟩) (by assumption) ?_
            rotate_left
            · (intro w hSw; (try dsimp only at hSw); go_simp; try with_reducible rfl)
            try simp only [List.getElem_toArray, List.getElem_cons_succ, List.getElem_cons_zero, Act.put, List.setIfInBounds_toArray, List.set_cons_zero, List.set_cons_succ]
            refine wpAnyH_ready (rs := [13]) (by kernel_rfl) (by simp) ?_
            refine (AllReadyH.cons rfl (fun K hK => ?_) AllReadyH.nil)
            rw [if_pos (by rfl)]
            obtain ⟨xk, hxk⟩ := blk_ex HPD.out (show k0 < (((partN l i).set i (-1)).set i (k0 : Int)).length by have := HLP.out; have := HHK.out; rw [List.length_set]; omega)
            have fk := HPD.out.frozen k0
            go_simp
            clear hxk fk
            refine hK.out _ _ (by exact hHeld.setCell (.inl (by simp)) _) (fun hN => ?_)
            clear hK K hHeld
            have hHeld := hN
            clear hN
            try simp only [List.getElem_toArray, List.getElem_cons_succ, List.getElem_cons_zero, Act.put, List.setIfInBounds_toArray, List.set_cons_zero, List.set_cons_succ]
            replace HPD := hide (blk_set HPD.out k0 (i : Int))
            generalize (we.setCell ⟨G, k0, none⟩ (.int .i64 (i : Int))) = w6 at *
            refine wpAnyH_done (by kernel_rfl) ?_ _
            have HO6 := hide hHeld
            clear hHeld
            have HMI6 := hide (HMI5.out.only HO6.out (by simp))
            have HZ6 := hide (HZ5.out.only HO6.out (by have := HGZ.out; have := HGT.out; simp; omega))
            have HTL6 := hide (HTL.out.only HO6.out (fun q hq => by have := (HTL.out.block_lt hq).1; simp; omega))
            have HOW6 := hide (((HOW.out.mono (S' := [G]) (by simp)).trans HO6.out).mono (S' := []) (fun x hx => .inr (by have := HG.out; simp at hx; omega)))
            go_upto_region 15 with fail
            have hsl := fun W => slice_one g2 o2 (nr + 1) c2 (by omega) hc1 W
            have HSL := hide hsl
            clear hsl
            have HZN := hide (show Z ∉ [G + 1] by have := HGZ.out; have := HGT.out; simp; omega)
            have HMD := hide (HMI6.out.wait.only ((Only.refl [] w6).drew) (by simp))
            skip
            have HMF := hide (HMI6.out.only ((Only.refl [] w6).drew) (by simp))
            have HTLF := hide (HTL6.out.only ((Only.refl [] w6).drew) (by simp))
            refine wp_region_held_drew (S := fun W => Only [G + 1] w6 W) (by kernel_rfl) (by exact (Only.refl [G + 1] w6).drew) (fun hHeld => ?_)
            generalize w6.drew = wf at *
            refine wpAnyH_take (i := 0) (v := ?_) rfl (by kernel_rfl) (by kernel_rfl) (by kernel_rfl) (fun _ _ _ h => h) (Or.inl ⟨by rfl, ?_⟩) (by assumption) ?_
            rotate_left
            · (intro w hSw; (try dsimp only at hSw); go_simp; try with_reducible rfl)
            try simp only [List.getElem_toArray, List.getElem_cons_succ, List.getElem_cons_zero, Act.put, List.setIfInBounds_toArray, List.set_cons_zero, List.set_cons_succ]
            refine wpAnyH_take (i := 1) (v := ?_) rfl (by kernel_rfl) (by kernel_rfl) (by kernel_rfl) (fun _ _ _ h => h) (Or.inl ⟨by rfl, ?_⟩) (by assumption) ?_
            rotate_left
            · (intro w hSw; (try dsimp only at hSw); have HZw := HZ6.out.only hSw HZN.out; have z0 : w.cell? ⟨Z, 0, none⟩ = some (.int .i64 p) := HZw.cell 0; have z1 : w.cell? ⟨Z, 1, none⟩ = some (.int .i64 a) := HZw.cell 1; have z2 : w.cell? ⟨Z, 2, none⟩ = some (.string s) := HZw.cell 2; clear HZw; go_simp; try with_reducible rfl)
            try simp only [List.getElem_toArray, List.getElem_cons_succ, List.getElem_cons_zero, Act.put, List.setIfInBounds_toArray, List.set_cons_zero, List.set_cons_succ]
            refine wpAnyH_take (i := 2) (v := ?_) rfl (by kernel_rfl) (by kernel_rfl) (by kernel_rfl) (fun _ _ _ h => h) (Or.inl ⟨by rfl, ?_⟩) (by assumption) ?_
            rotate_left
            · (intro w hSw; (try dsimp only at hSw); go_simp; try with_reducible rfl)
            try simp only [List.getElem_toArray, List.getElem_cons_succ, List.getElem_cons_zero, Act.put, List.setIfInBounds_toArray, List.set_cons_zero, List.set_cons_succ]
            refine wpAnyH_take (i := 3) (v := ?_) rfl (by kernel_rfl) (by kernel_rfl) (by kernel_rfl) (fun _ _ _ h => h) (Or.inl ⟨by rfl, ?_⟩) (by assumption) ?_
            rotate_left
            · (intro w hSw; (try dsimp only at hSw); have hsl := HSL.out w; go_simp; try with_reducible rfl)
            try simp only [List.getElem_toArray, List.getElem_cons_succ, List.getElem_cons_zero, Act.put, List.setIfInBounds_toArray, List.set_cons_zero, List.set_cons_succ]
            obtain ⟨d6, hd6⟩ := sliceEl_row HTL6.out
            have HD6 := hide hd6
            clear hd6
            refine wpAnyH_ready (rs := [4]) (by kernel_rfl) (by simp) ?_
            refine (AllReadyH.cons rfl (fun K hK => ?_) AllReadyH.nil)
            rw [if_pos (by rfl)]
            refine wp_wait_upd (.tmp 64) (.tmp 65) (.tmp 67) rfl rfl rfl HMD.out HW.out.2 HW.out.1 HSS.out (by unfold maxLen; omega) (tailV (some ⟨g2, o2, none⟩) (nr + 1) c2) rfl HD6.out (fun w7 F7 e1 e2 e3 e4 => ?_)
            have HO7 := hide (show Only [G + 1] w6 w7 from hHeld.grown e4 (fun q hq => .inl (by cases hq; simp)))
            refine hK.out _ _ (by exact HO7.out) (fun hN => ?_)
            clear hK K hHeld
            have hHeld := hN
            clear hN
            try simp only [List.getElem_toArray, List.getElem_cons_succ, List.getElem_cons_zero, Act.put, List.setIfInBounds_toArray, List.set_cons_zero, List.set_cons_succ]
            refine wpAnyH_done (by kernel_rfl) ?_ _
            have HSG := hide (step_cons l i ⟨k, a, p, b, nw⟩ HY.out HK.out k0 rr HRW0.out)
            have HM7 := hide (MInv.gone (w2 := w7) (wr := wf) (F' := F7) HMF.out ⟨k, a, p, b, nw⟩ HY.out (by rw [HLN.out]; exact hi) HK.out HS.out HRW0.out HTLF.out (by rw [HTB.out, ← HFV.out]; rfl) e1 e2 e3 e4)
            have HPE := hide (partN_go (l := l) (i := i) (by rw [HLN.out]; exact hi) HHK.out HSG.out)
            rw [HPE.out] at HPD
            have HP7 := hide (HPD.out.only HO7.out (by simp))
            have HO8 := hide (((HOW6.out.mono (S' := [G + 1]) (by simp)).trans HO7.out).mono (S' := []) (fun x hx => .inr (by have := HG.out; simp at hx; omega)))
            clear e1 e2 e3 e4 HO7
            go_wp2_with fail
            exact ⟨⟨i + 1, m + 1, F7, by omega, by omega, congrArg (Value.int .i64) (by omega), HP7, HM7, HO8⟩, by simp only [intOf]; omega⟩
        · have hf : flowV ⟨k, a, p, b, nw⟩ = (0, 0, false) := by unfold flowV; rw [if_neg hk, if_neg hk2]
          rw [hf] at KFL
          have HK := hide hk
          have HK2 := hide hk2
          clear hf hk hk2
          go_upto_region 8 with (go_at_call 15; refine (KFL.out _).mono ?_; rintro e w3 ⟨rfl, ho⟩; have HO3 := hide ho; clear ho r0 r1 r2 r3 r4)
          have HO4 := hide (HO3.out.alloc (.cells #[.int .i64 0, .int .i64 0] 43))
          generalize (w3.alloc (.cells #[.int .i64 0, .int .i64 0] 43)) = w4 at *
          have HES := hide (step_none l i ⟨k, a, p, b, nw⟩ HY.out HK2.out)
          have HM7 := hide ((HMI2.out.only HO4.out (by simp)).same ⟨k, a, p, b, nw⟩ HY.out HK.out HES.out)
          have HPE := hide (partN_step (l := l) (i := i) (by rw [HLN.out]; exact hi) HES.out)
          have HP7 := hide (HPT2.out.only HO4.out (by simp))
          rw [HPE.out] at HP7
          have HO8 := hide (HOO.out.trans HO4.out)
          go_wp2_with fail
          exact ⟨⟨i + 1, m, F, by omega, by omega, congrArg (Value.int .i64) (by omega), HP7, HM7, HO8⟩, by simp only [intOf]; omega⟩
end
end Go.Proofs.Ytahocmccaljplaa

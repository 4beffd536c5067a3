/-
  Contract of packet's Read, by walking.
-/
import Derived.Test.YtgplcojkhacniaaPkT
namespace Go.Proofs.Ytgplcojkhacniaa
open Go.RowKit Go.Deep

set_option maxRecDepth 100000 in
theorem read_bad (w : World) (N : List Nat) (v : Value) (l : List UInt8) (hv : Rd w N v (ints .u8 (byts l))) (hb : (bndV l).2.2 ≠ 0) :
    Calls Try.prog 6 #[v] w fun e w' => e = .returned (.tuple #[.agg #[.int .i64 0, .slice none 0 0, .slice none 0 0, .int .i64 0], .int .i64 (bndV l).2.2]) ∧ Only [] w w' := by
  have hq : ((((bndV l).2.2 : Nat) : Int) == 0) = false := by rw [beq_eq_false_iff_ne]; omega
  have hB := bounds_any (w.alloc (.cells #[.int .i64 0, .slice none 0 0, .slice none 0 0, .int .i64 0] 25)) N v l (hv.only ((Only.refl [] w).alloc _) (by simp))
  clear hb hv
  generalize (bndV l).2.2 = c at *
  generalize (bndV l).2.1 = b at *
  generalize (bndV l).1 = a at *
  go_enter Try.func6, Try.ntmps6
  go_wp2_with (go_at_call 15; refine hB.mono ?_; rintro e w1 ⟨rfl, k, rfl⟩)
  refine bodyPost_ret (v := .tuple #[.agg #[.int .i64 0, .slice none 0 0, .slice none 0 0, .int .i64 0], .int .i64 c]) ?_ rfl ⟨rfl, ?_⟩
  · rw [results_cell_tmp rfl]
    go_simp
  · exact ((((((Only.refl [] w).alloc _).drewN k).setCell (.inr (Nat.le_refl _)) _).setCell (.inr (Nat.le_refl _)) _).setCell (.inr (Nat.le_refl _)) _).setCell (.inr (Nat.le_refl _)) _

set_option maxRecDepth 100000 in
set_option maxHeartbeats 3200000 in
theorem read_6 (w : World) (N : List Nat) (v : Value) (l : List UInt8) (hv : Rd w N v (ints .u8 (byts l))) (hb : (bndV l).2.2 = 0) (h6 : bt l 0 / 16 = 6) :
    Calls Try.prog 6 #[v] w fun e w' => ∃ s d, e = .returned (.tuple #[.agg #[.int .i64 6, s, d, .int .i64 (bndV l).2.1], .int .i64 0]) ∧
      OwnB w' w.heap.size s (byts ((l.take 24).drop 8)) ∧ OwnB w' w.heap.size d (byts ((l.take 40).drop 24)) ∧ Only [] w w' := by
  obtain ⟨q1, q2, q3, q4, q5, q6⟩ := bnd_ok l hb
  have h40 : 40 ≤ l.length := by omega
  have hq : ((((bndV l).2.2 : Nat) : Int) == 0) = true := by rw [hb]; rfl
  have hv6 : ((bt l 0 : Int) / 16 == 6) = true := by rw [beq_iff_eq]; omega
  have hx6 := hide (show (bt l 0 : Int) / 16 = 6 by omega)
  have hB := bounds_any (w.alloc (.cells #[.int .i64 0, .slice none 0 0, .slice none 0 0, .int .i64 0] 25)) N v l (hv.only ((Only.refl [] w).alloc _) (by simp))
  obtain ⟨A, cap, rfl, hc, hm⟩ := hv.formb
  obtain ⟨g, o, rfl, hg, _⟩ := rd_some hv q5
  have c0 := rd_bt hv q5
  rw [Nat.add_zero] at c0
  have R1 := hv.cut 8 24 (cap - 8) (some ⟨g, o + 8, none⟩) (by omega) (by omega) (fun _ => rfl) (by omega) (by omega)
  have R2 := hv.cut 24 40 (cap - 24) (some ⟨g, o + 24, none⟩) (by omega) (by omega) (fun _ => rfl) (by omega) (by omega)
  rw [ints_take, byts_take, ints_drop, byts_drop] at R1 R2
  have L1 := hide (show (byts ((l.take 24).drop 8)).length ≤ 140737488351232 by rw [byts_length, List.length_drop, List.length_take]; omega)
  have L2 := hide (show (byts ((l.take 40).drop 24)).length ≤ 140737488351232 by rw [byts_length, List.length_drop, List.length_take]; omega)
  have R1 := hide R1
  have R2 := hide R2
  rw [hb] at hq hB
  have b0 := bt_lt l 0
  clear hm hv hb q5 q6 h6 q1 q2 q3 q4
  generalize byts ((l.take 24).drop 8) = xs at *
  generalize byts ((l.take 40).drop 24) = ys at *
  generalize (bndV l).2.1 = b at *
  generalize (bndV l).1 = a at *
  generalize l.length = n at *
  generalize bt l 0 = x0 at *
  have h40' : (40 : Int) ≤ n := by omega
  have h0' : (0 : Int) < n := by omega
  have hc' : (n : Int) ≤ cap := by omega
  have h0n : 0 < n := by omega
  have m1 : (24 : Int) ≤ cap := by omega
  have m2 : (40 : Int) ≤ cap := by omega
  have m3 : 24 ≤ cap := by omega
  have m4 : 40 ≤ cap := by omega
  have m5 : ¬ cap - 8 = 0 := by omega
  have m6 : ¬ cap - 24 = 0 := by omega
  have m7 : ¬ cap ≤ 8 := by omega
  have m8 : ¬ cap ≤ 24 := by omega
  have m9 : ¬ cap = 8 := by omega
  have m10 : ¬ cap = 24 := by omega
  have w1 : IntKind.i64.wrap 24 = 24 := rfl
  have w2 : IntKind.i64.wrap 32 = 32 := rfl
  have w3 : IntKind.i64.wrap 40 = 40 := rfl
  have w4 : IntKind.i64.wrap (8 + 16) = 24 := rfl
  have w5 : IntKind.i64.wrap (2 * 16) = 32 := rfl
  have w6 : IntKind.i64.wrap (8 + 32) = 40 := rfl
  go_enter Try.func6, Try.ntmps6
  go_wp2_with (first
    | (go_at_call 15; refine hB.mono ?_; rintro e w1 ⟨rfl, k, rfl⟩)
    | fail)
  have c1 : ((w.alloc (.cells #[.int .i64 0, .slice none 0 0, .slice none 0 0, .int .i64 0] 25)).drewN k).cell? ⟨g, o, none⟩ = some (.int .u8 x0) := (cell_only (((Only.refl [] w).alloc _).drewN k) hg (by simp)).trans c0
  have HO1 := hide (((Only.refl [] w).alloc (.cells #[.int .i64 0, .slice none 0 0, .slice none 0 0, .int .i64 0] 25)).drewN k)
  have HK := hide ((Blk.new w 25 #[.int .i64 0, .slice none 0 0, .slice none 0 0, .int .i64 0]).drewN k)
  have hsz : w.heap.size < ((w.alloc (.cells #[.int .i64 0, .slice none 0 0, .slice none 0 0, .int .i64 0] 25)).drewN k).heap.size := HK.out.lt
  generalize hW : (w.alloc (.cells #[.int .i64 0, .slice none 0 0, .slice none 0 0, .int .i64 0] 25)).drewN k = W at *
  clear hB hW c0
  have hgW : g < W.heap.size := by omega
  go_region_held3 (fun w' => w'.cell? ⟨g, o, none⟩ = some (.int .u8 x0)) (first | exact c1 | exact kA | exact kB | exact (cell_only (S := [w.heap.size]) (((((Only.refl _ wB).setCell (.inl (by simp)) _).setCell (.inl (by simp)) _).setCell (.inl (by simp)) _).setCell (.inl (by simp)) _) (Nat.lt_of_lt_of_le hgW HOB.out.size) (by simp; omega)).trans kB)
    (first
    | (go_at_call 16; refine (clone_any _ N (Value.slice (some ⟨g, o + 8, none⟩) 16 (cap - 8)) xs ((R1.out.only HO1.out (by simp)).only (S := []) ((Only.refl [] _).drew) (by simp)) L1.out).mono ?_; rintro e wA ⟨vA, rfl, how, ho⟩; obtain ⟨AA, cA, rfl, _, _⟩ := own_form how; have HOWA := hide how; have HOA := hide (((Only.refl [] W).drew).trans ho); have kA := (cell_only HOA.out hgW (by simp)).trans c1; clear how ho)
    | (go_at_call 16; refine (clone_any _ N (Value.slice (some ⟨g, o + 24, none⟩) 16 (cap - 24)) ys (R2.out.only (HO1.out.trans HOA.out) (by simp)) L2.out).mono ?_; rintro e wB ⟨vB, rfl, how, ho⟩; obtain ⟨AB, cB, rfl, _, _⟩ := own_form how; have HOWB := hide how; have HAB := hide ho; have HOB := hide (HOA.out.trans ho); have kB := (cell_only HOB.out hgW (by simp)).trans c1; have HKB := hide (HK.out.only HOB.out (by simp)); have y0 := HKB.out.cell 0; have y1 := HKB.out.cell 1; have y2 := HKB.out.cell 2; have y3 := HKB.out.cell 3; have zb := HKB.out.frozen; simp at y0 y1 y2 y3; clear how ho))
  have e6 : IntKind.i64.wrap ((x0 : Int) / 16) = 6 := by rw [IntWalk.i64_in _ (by omega)]; exact hx6.out
  go_wp2_with fail
  refine bodyPost_ret (v := .tuple #[.agg #[.int .i64 6, .slice AA xs.length cA, .slice AB ys.length cB, .int .i64 b], .int .i64 0]) ?_ rfl ⟨_, _, rfl, ?_, ?_, ?_⟩
  · rw [results_cell_tmp rfl]
    go_simp
  · exact ((HOWA.out.only HAB.out (by simp)).only (S := [w.heap.size]) (((((Only.refl _ wB).setCell (.inl (by simp)) _).setCell (.inl (by simp)) _).setCell (.inl (by simp)) _).setCell (.inl (by simp)) _) (by simp; omega)).base (by simp; omega)
  · exact (HOWB.out.only (S := [w.heap.size]) (((((Only.refl _ wB).setCell (.inl (by simp)) _).setCell (.inl (by simp)) _).setCell (.inl (by simp)) _).setCell (.inl (by simp)) _) (by have := HOA.out.size; simp; omega)).base (by have := HOA.out.size; omega)
  · exact ((HO1.out.trans HOB.out).mono (S' := [w.heap.size]) (by simp)).trans (((((Only.refl _ wB).setCell (.inl (by simp)) _).setCell (.inl (by simp)) _).setCell (.inl (by simp)) _).setCell (.inl (by simp)) _) |>.mono (by simp)

set_option maxRecDepth 100000 in
set_option maxHeartbeats 3200000 in
theorem read_4 (w : World) (N : List Nat) (v : Value) (l : List UInt8) (hv : Rd w N v (ints .u8 (byts l))) (hb : (bndV l).2.2 = 0) (h6 : bt l 0 / 16 = 4) :
    Calls Try.prog 6 #[v] w fun e w' => ∃ s d, e = .returned (.tuple #[.agg #[.int .i64 4, s, d, .int .i64 (bndV l).2.1], .int .i64 0]) ∧
      OwnB w' w.heap.size s (byts ((l.take 16).drop 12)) ∧ OwnB w' w.heap.size d (byts ((l.take 20).drop 16)) ∧ Only [] w w' := by
  obtain ⟨q1, q2, q3, q4, q5, q6⟩ := bnd_ok l hb
  have h40 : 20 ≤ l.length := by omega
  have hq : ((((bndV l).2.2 : Nat) : Int) == 0) = true := by rw [hb]; rfl
  have hv6 : ((bt l 0 : Int) / 16 == 6) = false := by rw [beq_eq_false_iff_ne]; omega
  have hx6 := hide (show (bt l 0 : Int) / 16 = 4 by omega)
  have hB := bounds_any (w.alloc (.cells #[.int .i64 0, .slice none 0 0, .slice none 0 0, .int .i64 0] 25)) N v l (hv.only ((Only.refl [] w).alloc _) (by simp))
  obtain ⟨A, cap, rfl, hc, hm⟩ := hv.formb
  obtain ⟨g, o, rfl, hg, _⟩ := rd_some hv q5
  have c0 := rd_bt hv q5
  rw [Nat.add_zero] at c0
  have R1 := hv.cut 12 16 (cap - 12) (some ⟨g, o + 12, none⟩) (by omega) (by omega) (fun _ => rfl) (by omega) (by omega)
  have R2 := hv.cut 16 20 (cap - 16) (some ⟨g, o + 16, none⟩) (by omega) (by omega) (fun _ => rfl) (by omega) (by omega)
  rw [ints_take, byts_take, ints_drop, byts_drop] at R1 R2
  have L1 := hide (show (byts ((l.take 16).drop 12)).length ≤ 140737488351232 by rw [byts_length, List.length_drop, List.length_take]; omega)
  have L2 := hide (show (byts ((l.take 20).drop 16)).length ≤ 140737488351232 by rw [byts_length, List.length_drop, List.length_take]; omega)
  have R1 := hide R1
  have R2 := hide R2
  rw [hb] at hq hB
  have b0 := bt_lt l 0
  clear hm hv hb q5 q6 h6 q1 q2 q3 q4
  generalize byts ((l.take 16).drop 12) = xs at *
  generalize byts ((l.take 20).drop 16) = ys at *
  generalize (bndV l).2.1 = b at *
  generalize (bndV l).1 = a at *
  generalize l.length = n at *
  generalize bt l 0 = x0 at *
  have h40' : (20 : Int) ≤ n := by omega
  have h0' : (0 : Int) < n := by omega
  have hc' : (n : Int) ≤ cap := by omega
  have h0n : 0 < n := by omega
  have m1 : (16 : Int) ≤ cap := by omega
  have m2 : (20 : Int) ≤ cap := by omega
  have m3 : 16 ≤ cap := by omega
  have m4 : 20 ≤ cap := by omega
  have m5 : ¬ cap - 12 = 0 := by omega
  have m6 : ¬ cap - 16 = 0 := by omega
  have m7 : ¬ cap ≤ 12 := by omega
  have m8 : ¬ cap ≤ 16 := by omega
  have m9 : ¬ cap = 12 := by omega
  have m10 : ¬ cap = 16 := by omega
  have w1 : IntKind.i64.wrap 16 = 16 := rfl
  have w2 : IntKind.i64.wrap 8 = 8 := rfl
  have w3 : IntKind.i64.wrap 20 = 20 := rfl
  have w4 : IntKind.i64.wrap (12 + 4) = 16 := rfl
  have w5 : IntKind.i64.wrap (2 * 4) = 8 := rfl
  have w6 : IntKind.i64.wrap (12 + 8) = 20 := rfl
  go_enter Try.func6, Try.ntmps6
  go_wp2_with (first
    | (go_at_call 15; refine hB.mono ?_; rintro e w1 ⟨rfl, k, rfl⟩)
    | fail)
  have c1 : ((w.alloc (.cells #[.int .i64 0, .slice none 0 0, .slice none 0 0, .int .i64 0] 25)).drewN k).cell? ⟨g, o, none⟩ = some (.int .u8 x0) := (cell_only (((Only.refl [] w).alloc _).drewN k) hg (by simp)).trans c0
  have HO1 := hide (((Only.refl [] w).alloc (.cells #[.int .i64 0, .slice none 0 0, .slice none 0 0, .int .i64 0] 25)).drewN k)
  have HK := hide ((Blk.new w 25 #[.int .i64 0, .slice none 0 0, .slice none 0 0, .int .i64 0]).drewN k)
  have hsz : w.heap.size < ((w.alloc (.cells #[.int .i64 0, .slice none 0 0, .slice none 0 0, .int .i64 0] 25)).drewN k).heap.size := HK.out.lt
  generalize hW : (w.alloc (.cells #[.int .i64 0, .slice none 0 0, .slice none 0 0, .int .i64 0] 25)).drewN k = W at *
  clear hB hW c0
  have hgW : g < W.heap.size := by omega
  go_region_held3 (fun w' => w'.cell? ⟨g, o, none⟩ = some (.int .u8 x0)) (first | exact c1 | exact kA | exact kB | exact (cell_only (S := [w.heap.size]) (((((Only.refl _ wB).setCell (.inl (by simp)) _).setCell (.inl (by simp)) _).setCell (.inl (by simp)) _).setCell (.inl (by simp)) _) (Nat.lt_of_lt_of_le hgW HOB.out.size) (by simp; omega)).trans kB)
    (first
    | (go_at_call 16; refine (clone_any _ N (Value.slice (some ⟨g, o + 12, none⟩) 4 (cap - 12)) xs ((R1.out.only HO1.out (by simp)).only (S := []) ((Only.refl [] _).drew) (by simp)) L1.out).mono ?_; rintro e wA ⟨vA, rfl, how, ho⟩; obtain ⟨AA, cA, rfl, _, _⟩ := own_form how; have HOWA := hide how; have HOA := hide (((Only.refl [] W).drew).trans ho); have kA := (cell_only HOA.out hgW (by simp)).trans c1; clear how ho)
    | (go_at_call 16; refine (clone_any _ N (Value.slice (some ⟨g, o + 16, none⟩) 4 (cap - 16)) ys (R2.out.only (HO1.out.trans HOA.out) (by simp)) L2.out).mono ?_; rintro e wB ⟨vB, rfl, how, ho⟩; obtain ⟨AB, cB, rfl, _, _⟩ := own_form how; have HOWB := hide how; have HAB := hide ho; have HOB := hide (HOA.out.trans ho); have kB := (cell_only HOB.out hgW (by simp)).trans c1; have HKB := hide (HK.out.only HOB.out (by simp)); have y0 := HKB.out.cell 0; have y1 := HKB.out.cell 1; have y2 := HKB.out.cell 2; have y3 := HKB.out.cell 3; have zb := HKB.out.frozen; simp at y0 y1 y2 y3; clear how ho))
  have e6 : IntKind.i64.wrap ((x0 : Int) / 16) = 4 := by rw [IntWalk.i64_in _ (by omega)]; exact hx6.out
  go_wp2_with fail
  refine bodyPost_ret (v := .tuple #[.agg #[.int .i64 4, .slice AA xs.length cA, .slice AB ys.length cB, .int .i64 b], .int .i64 0]) ?_ rfl ⟨_, _, rfl, ?_, ?_, ?_⟩
  · rw [results_cell_tmp rfl]
    go_simp
  · exact ((HOWA.out.only HAB.out (by simp)).only (S := [w.heap.size]) (((((Only.refl _ wB).setCell (.inl (by simp)) _).setCell (.inl (by simp)) _).setCell (.inl (by simp)) _).setCell (.inl (by simp)) _) (by simp; omega)).base (by simp; omega)
  · exact (HOWB.out.only (S := [w.heap.size]) (((((Only.refl _ wB).setCell (.inl (by simp)) _).setCell (.inl (by simp)) _).setCell (.inl (by simp)) _).setCell (.inl (by simp)) _) (by have := HOA.out.size; simp; omega)).base (by have := HOA.out.size; omega)
  · exact ((HO1.out.trans HOB.out).mono (S' := [w.heap.size]) (by simp)).trans (((((Only.refl _ wB).setCell (.inl (by simp)) _).setCell (.inl (by simp)) _).setCell (.inl (by simp)) _).setCell (.inl (by simp)) _) |>.mono (by simp)
end Go.Proofs.Ytgplcojkhacniaa

/-
  Walks and plain words for PairLimits (texts Ps, Pn, Pl). No condition beyond those that each theorem states.
-/
import Derived.Test.YtfipdjlalfpbnaaDoorP12
namespace Go.Proofs.YtfipdjlalfpbnaaDoor
section
open Go.RowKit Go.Deep

theorem tn_data (b : List UInt8) (h : b.length ≤ 30000) : Tn (2 * b.length + 1) (makeV 4 0 b []) := by
  have h1 : makeV 4 0 b [] = bytesOf (txtL 4 0 b (sortV 4 [])) := make_is (k := 4) (n := 0) (b := b) (l := []) (by decide) (fun h => by cases h) (by decide) (fun j hj => by simp at hj) (by
    show (letU 4 :: (if (4 : Int) = 2 ∨ (4 : Int) = 3 then _ else if (4 : Int) = 4 then hexS b else _)).length ≤ 65536
    rw [if_neg (by decide), if_pos rfl, List.length_cons, hexS_length]
    omega)
  have hne : makeV 4 0 b [] ≠ ByteArray.empty := by rw [h1]; exact bytes_ne (txt_ne _ _ _ _)
  refine ⟨by rw [make_read (by omega) hne]; rfl, ?_⟩
  rw [h1, bytesOf_size]
  show (letU 4 :: (if (4 : Int) = 2 ∨ (4 : Int) = 3 then _ else if (4 : Int) = 4 then hexS b else _)).length ≤ 2 * b.length + 1
  rw [if_neg (by decide), if_pos rfl, List.length_cons, hexS_length]
  omega
theorem byt_data (b : List UInt8) (h : b.length ≤ 30000) : bytT (makeV 4 0 b []) = (b, true) := by
  have h1 := make_read (k := 4) (n := 0) (b := b) (l := []) (by omega) (tn_data b h).ne
  unfold bytT
  rw [h1]
  rfl
theorem tn_zero : Tn 1 ⟨#[48]⟩ := ⟨by kernel_rfl, Nat.le_refl _⟩
theorem tn_sealT {a n : Nat} {s : ByteArray} {b : List UInt8} (hs : Tn a s) (ha : a ≤ 20000) (hb : b.length ≤ 10000) (hn : n < 18446744073709551616) : Tn (a + (2 * b.length + 1) + 1 + 27) (sealT n s b) :=
  tn_seal n hn hs (tn_data b (by omega)) tn_zero (by omega)
theorem right_seal {a re n : Nat} {s : ByteArray} {b : List UInt8} (hs : Tn a s) (ha : a ≤ 20000) (hb : b.length ≤ 10000) (hn : n < 18446744073709551616) : rightM (sealM re n s b) = true := by
  have h := tn_sealT hs ha hb hn
  have hf : fitW (sealT n s b) = true := by
    unfold fitW
    rw [decide_eq_true (by have := h.2; omega), h.1]
    rfl
  have h2 : eqM (sealM re n s b) (sealM re n s b) = true := (eqM_iff _ _).2 rfl
  show (decide (1 ≤ (4 : Int) ∧ (4 : Int) ≤ 4) && ([sealT n s b].all fitW && eqM (sealM re n s b) (sealM re n s b))) = true
  rw [h2]
  simp [hf]
theorem open_sealT {a n : Nat} {s : ByteArray} {b : List UInt8} (hs : Tn a s) (ha : a ≤ 20000) (hb : b.length ≤ 10000) (hn : n < 18446744073709551616) (m : Nat) (k : ByteArray) : openT (sealT n s b) k m ⟨#[48]⟩ = if k = s ∧ m = n then (makeV 4 0 b [], 0) else (ByteArray.empty, 8) := by
  have h := (tn_sealT (n := n) hs ha hb hn).ne
  have hr := make_read (k := 10) (n := n) (b := []) (l := [s, makeV 4 0 b [], ⟨#[48]⟩]) hn h
  rw [sort_not6 (by omega)] at hr
  unfold openT sealT
  rw [hr]
  simp only
  rw [if_neg (by decide)]
  by_cases hc : k = s ∧ m = n
  · rw [if_pos hc, if_pos ⟨hc.1.symm, hc.2.symm, rfl⟩]; rfl
  · rw [if_neg hc, if_neg (fun c => hc ⟨c.1.symm, c.2.1.symm⟩)]
end
section
open Go.RowKit Go.Deep

theorem pk1 : kindT ⟨#[97, 49]⟩ ≠ 0 := by rw [show kindT ⟨#[97, 49]⟩ = 2 from by kernel_rfl]; decide
theorem pk2 : kindT ⟨#[97, 50]⟩ ≠ 0 := by rw [show kindT ⟨#[97, 50]⟩ = 2 from by kernel_rfl]; decide
theorem tn_a1 : Tn 2 ⟨#[97, 49]⟩ := ⟨by kernel_rfl, Nat.le_refl _⟩
theorem sz2 (a b : UInt8) : (⟨#[a, b]⟩ : ByteArray).size ≤ maxLen := by unfold maxLen; show 2 ≤ _; omega
/-- What the example's pair makes of its bytes. -/
theorem seal7_new (w : World) (G : Nat) (hG : G = w.heap.size) (g c : Nat) (h : PairIs w g c ⟨#[97, 49]⟩ ⟨#[97, 50]⟩ 1 2 true 0 0) (htab : Tab w) : Calls Tryd.prog 9 #[.pointer (some ⟨g, 0, none⟩), .int .i64 0, .slice (some ⟨G, 0, none⟩) 1 1] (w.alloc (.cells #[.int .u8 7] 5)) fun e w' => e = .returned (.tuple #[.agg #[.int .i64 4, .int .u32 0, .int .u32 2, .int .u64 0, .string ⟨#[]⟩, .string ⟨#[]⟩, .string ⟨#[]⟩, .string ⟨#[]⟩, .string ⟨#[]⟩, .string ⟨#[]⟩, .string (sealT 0 ⟨#[97, 49]⟩ [7]), .string ⟨#[]⟩, .string ⟨#[]⟩], .int .i64 0]) ∧ PairIs w' g c ⟨#[97, 49]⟩ ⟨#[97, 50]⟩ 1 2 true 0 1 ∧ Only [g] w w' := by
  subst hG
  have ho : Only [] w (w.alloc (.cells #[.int .u8 7] 5)) := (Only.refl [] w).alloc _
  refine (Seal_any _ g c ⟨#[97, 49]⟩ ⟨#[97, 50]⟩ 1 2 true 0 0 (PairIs.only h ho (by simp)) 0 (by omega) (by omega) (some ⟨w.heap.size, 0, none⟩) 1 [7] (sz2 _ _) (rd_new w 5 [] (ints .u8 (byts [7])) (by simp) (by unfold maxLen; show 1 ≤ _; omega)) (htab.only ho (by simp)) (by omega)).mono ?_
  intro e w' hp
  have hv : sealV 2 0 0 ⟨#[97, 49]⟩ 0 [7] = (sealM 2 0 ⟨#[97, 49]⟩ [7], 0, 1) := by
    unfold sealV
    rw [if_neg (by rw [show timeV 0 = true from rfl]; decide), if_neg (by unfold ageV; omega), if_neg (by show ¬ 2000 < 1; omega), if_pos (right_seal tn_a1 (by omega) (by show 1 ≤ 10000; omega) (by omega))]
  unfold SealPost at hp
  rw [hv] at hp
  exact ⟨hp.1, hp.2.1, (ho.mono (by simp)).trans hp.2.2⟩
theorem open7 (w : World) (g c : Nat) (now : Int) (h : PairIs w g c ⟨#[97, 50]⟩ ⟨#[97, 49]⟩ 2 1 false 0 0) (hw : WinSet w c []) (hn : now = 180000 ∨ now = 179999) : Calls Tryd.prog 12 #[.pointer (some ⟨g, 0, none⟩), .int .i64 now, .agg #[.int .i64 4, .int .u32 0, .int .u32 2, .int .u64 0, .string ⟨#[]⟩, .string ⟨#[]⟩, .string ⟨#[]⟩, .string ⟨#[]⟩, .string ⟨#[]⟩, .string ⟨#[]⟩, .string (sealT 0 ⟨#[97, 49]⟩ [7]), .string ⟨#[]⟩, .string ⟨#[]⟩]] w fun e w' => (∃ v, e = .returned (.tuple #[v, .int .i64 (if now = 180000 then 10 else 0)]) ∧ Rd w' [] v (ints .u8 (byts (if now = 180000 then [] else [7])))) ∧ PairIs w' g c ⟨#[97, 50]⟩ ⟨#[97, 49]⟩ 2 1 false 0 0 ∧ WinSet w' c (if now = 180000 then [] else [0]) ∧ Only [c] w w' := by
  refine (Open_pair_any w g c ⟨#[97, 50]⟩ ⟨#[97, 49]⟩ 2 1 false 0 0 [] h hw now (by omega) (by omega) (sealM 2 0 ⟨#[97, 49]⟩ [7]) (seal_fine (by omega) (by omega))).mono ?_
  rintro e w' ⟨v, h1, h2, h3, h4, h5⟩
  have ht : timeV now = true := by rw [timeV_iff]; omega
  have hr : rightM (sealM 2 0 ⟨#[97, 49]⟩ [7]) = true := right_seal tn_a1 (by omega) (by show 1 ≤ 10000; omega) (by omega)
  have hv : openPV 2 0 ⟨#[97, 49]⟩ [] now (sealM 2 0 ⟨#[97, 49]⟩ [7]) = if now = 180000 then ([], 10, []) else ([7], 0, [0]) := by
    unfold openPV
    rw [if_neg (fun h => h ⟨rfl, hr⟩), if_neg (by show ¬ (2 ≠ 2); simp), if_neg (by rw [ht]; decide)]
    have hx : openT (sealM 2 0 ⟨#[97, 49]⟩ [7]).x10 ⟨#[97, 49]⟩ (sealM 2 0 ⟨#[97, 49]⟩ [7]).c ⟨#[48]⟩ = (makeV 4 0 [7] [], 0) := by
      show openT (sealT 0 ⟨#[97, 49]⟩ [7]) ⟨#[97, 49]⟩ 0 ⟨#[48]⟩ = _
      rw [open_sealT tn_a1 (by omega) (by show 1 ≤ 10000; omega) (by omega), if_pos ⟨rfl, rfl⟩]
    rcases hn with rfl | rfl
    · rw [if_pos (.inl (by unfold ageV; omega)), if_pos rfl]
    · rw [if_neg (by rintro (h | h); (unfold ageV at h; omega); (exact absurd (show 18446744073709543423 ≤ 0 from h) (by omega))), if_neg (fun h => h rfl), hx, if_neg (fun h => h rfl), byt_data [7] (by show 1 ≤ 30000; omega), if_neg (by decide), if_neg (by omega)]
      rfl
  rw [hv] at h1 h2 h4
  rcases hn with rfl | rfl
  · exact ⟨⟨v, h1, h2⟩, h3, h4, h5⟩
  · exact ⟨⟨v, h1, h2⟩, h3, h4, h5⟩
set_option maxRecDepth 100000 in
set_option maxHeartbeats 12800000 in
theorem awake12 (w : World) (htab : Tab w) : Calls Tryd.prog 6 #[] w (RetB true w) := by
  have HNP := hide (fun W => pair_new W ⟨#[97, 49]⟩ ⟨#[97, 50]⟩ 1 2 true 0 (sz2 _ _) (sz2 _ _) pk1 pk2 (by omega) (by omega))
  have HNQ := hide (fun W => pair_new W ⟨#[97, 50]⟩ ⟨#[97, 49]⟩ 2 1 false 0 (sz2 _ _) (sz2 _ _) pk2 pk1 (by omega) (by omega))
  unfold NewPost at HNP HNQ
  have HS := hide (fun W G (hG : G = W.heap.size) g c h ht => seal7_new W G hG g c h ht)
  have HOa := hide (fun W g c h hw => open7 W g c 180000 h hw (.inl rfl))
  have HOb := hide (fun W g c h hw => open7 W g c 179999 h hw (.inr rfl))
  simp only [show ((180000 : Int) = 180000) = True from eq_self _, show ((179999 : Int) = 180000) = False from eq_false (by decide), if_true, if_false] at HOa HOb
  have HT := hide htab
  clear htab
  generalize sealT 0 ⟨#[97, 49]⟩ [7] = x10 at *
  go_enter Tryd.func6, Tryd.ntmps6
  go_upto_region 4 with (first
    | (go_at_call 7; (with_reducible refine (HNP.out _).mono ?_); rintro e w1 ⟨g, c, rfl, hg, hc, hgc, hp, _, ho⟩; have HP := hide hp; have HO := hide ho; have HGL := hide (show g < w1.heap.size from Blk.lt hp); have HGG := hide hg; replace HT := hide (HT.out.only ho (by simp)); clear hg hc hgc hp ho)
    | (go_at_call 7; (with_reducible refine (HNQ.out _).mono ?_); rintro e w2 ⟨q, d, rfl, hq, hd, hqd, hp, hz, ho⟩; have HQ := hide hp; have HD := hide (win_zero hz); have HQL := hide (show w1.heap.size ≤ q ∧ w1.heap.size ≤ d ∧ w.heap.size ≤ w1.heap.size ∧ w2.heap.size ≤ w2.heap.size from ⟨hq, hd, HO.out.size, Nat.le_refl _⟩); have HQS := hide (show q < w2.heap.size ∧ d < w2.heap.size from ⟨Blk.lt hp, hz.lt⟩); replace HP := hide (PairIs.only HP.out ho (by simp)); replace HO := hide (HO.out.trans ho); replace HT := hide (HT.out.only ho (by simp)); clear hq hd hqd hp hz ho)
    | (go_at_call 9; (with_reducible refine (HS.out _ _ rfl g c HP.out HT.out).mono ?_); rintro e w3 ⟨rfl, hp, ho⟩; replace HQ := hide (PairIs.only HQ.out ho (by have := HGL.out; have := HQL.out; simp; omega)); replace HD := hide (HD.out.only ho (by have := HGL.out; have := HQL.out; simp; omega)); replace HO := hide (((HO.out.mono (S' := [g]) (by simp)).trans ho).mono (S' := []) (by intro x hx; right; simp at hx; have := HGG.out; omega)); have HSZ := hide ho.size; clear hp ho HP HT))
  have HMB := hide (Blk.new w3 33 #[.int .i64 4, .int .u32 0, .int .u32 2, .int .u64 0, .string ⟨#[]⟩, .string ⟨#[]⟩, .string ⟨#[]⟩, .string ⟨#[]⟩, .string ⟨#[]⟩, .string ⟨#[]⟩, .string x10, .string ⟨#[]⟩, .string ⟨#[]⟩])
  replace HO := hide (HO.out.alloc (.cells #[.int .i64 4, .int .u32 0, .int .u32 2, .int .u64 0, .string ⟨#[]⟩, .string ⟨#[]⟩, .string ⟨#[]⟩, .string ⟨#[]⟩, .string ⟨#[]⟩, .string ⟨#[]⟩, .string x10, .string ⟨#[]⟩, .string ⟨#[]⟩] 33))
  replace HQ := hide (PairIs.only HQ.out ((Only.refl [] _).alloc (.cells #[.int .i64 4, .int .u32 0, .int .u32 2, .int .u64 0, .string ⟨#[]⟩, .string ⟨#[]⟩, .string ⟨#[]⟩, .string ⟨#[]⟩, .string ⟨#[]⟩, .string ⟨#[]⟩, .string x10, .string ⟨#[]⟩, .string ⟨#[]⟩] 33)) (by simp))
  replace HD := hide (HD.out.only ((Only.refl [] _).alloc (.cells #[.int .i64 4, .int .u32 0, .int .u32 2, .int .u64 0, .string ⟨#[]⟩, .string ⟨#[]⟩, .string ⟨#[]⟩, .string ⟨#[]⟩, .string ⟨#[]⟩, .string ⟨#[]⟩, .string x10, .string ⟨#[]⟩, .string ⟨#[]⟩] 33)) (by simp))
  have HDM := hide (show w3.heap.size ≠ d by have := HSZ.out; have := HQS.out; omega)
  generalize (w3.alloc (.cells #[.int .i64 4, .int .u32 0, .int .u32 2, .int .u64 0, .string ⟨#[]⟩, .string ⟨#[]⟩, .string ⟨#[]⟩, .string ⟨#[]⟩, .string ⟨#[]⟩, .string ⟨#[]⟩, .string x10, .string ⟨#[]⟩, .string ⟨#[]⟩] 33)) = w4 at *
  have m0 := HMB.out.cell 0; have m1 := HMB.out.cell 1; have m2 := HMB.out.cell 2; have m3 := HMB.out.cell 3; have m4 := HMB.out.cell 4; have m5 := HMB.out.cell 5; have m6 := HMB.out.cell 6; have m7 := HMB.out.cell 7; have m8 := HMB.out.cell 8; have m9 := HMB.out.cell 9; have m10 := HMB.out.cell 10; have m11 := HMB.out.cell 11; have m12 := HMB.out.cell 12; simp at m0 m1 m2 m3 m4 m5 m6 m7 m8 m9 m10 m11 m12
  go_wp2_with (first
    | (go_at_call 12; (with_reducible refine (HOa.out _ q d HQ.out HD.out).mono ?_); rintro e w5 ⟨⟨v, rfl, hr⟩, hq, hd, ho⟩; obtain ⟨B5, c5, hv, _, _⟩ := hr.form; replace hv : v = .slice B5 0 c5 := hv; subst hv; replace HQ := hide hq; replace HD := hide hd; replace HMB := hide (HMB.out.only ho (by have := HDM.out; simp; omega)); replace HO := hide (((HO.out.mono (S' := [d]) (by simp)).trans ho).mono (S' := []) (by intro x hx; right; simp at hx; have := HQL.out; omega)); clear hr hq hd ho; clear m0 m1 m2 m3 m4 m5 m6 m7 m8 m9 m10 m11 m12; have m0 := HMB.out.cell 0; have m1 := HMB.out.cell 1; have m2 := HMB.out.cell 2; have m3 := HMB.out.cell 3; have m4 := HMB.out.cell 4; have m5 := HMB.out.cell 5; have m6 := HMB.out.cell 6; have m7 := HMB.out.cell 7; have m8 := HMB.out.cell 8; have m9 := HMB.out.cell 9; have m10 := HMB.out.cell 10; have m11 := HMB.out.cell 11; have m12 := HMB.out.cell 12; simp at m0 m1 m2 m3 m4 m5 m6 m7 m8 m9 m10 m11 m12)
    | (go_at_call 12; (with_reducible refine (HOb.out _ q d HQ.out HD.out).mono ?_); rintro e w6 ⟨⟨v, rfl, hr⟩, hq, hd, ho⟩; obtain ⟨B6, c6, hv, _, _⟩ := hr.form; replace hv : v = .slice B6 1 c6 := hv; subst hv; obtain ⟨gg, oo, rfl, _, _, hcell⟩ := hr.at_.2.2.2 0 (.int .u8 7) rfl; replace HO := hide (((HO.out.mono (S' := [d]) (by simp)).trans ho).mono (S' := []) (by intro x hx; right; simp at hx; have := HQL.out; omega)); rw [Nat.add_zero] at hcell; clear hr hq hd ho))
  go_ret
  exact retb rfl HO.out
theorem u64_nat {n : Int} (h : (Lit.int .u64 n).wf = true) : ∃ m : Nat, n = m ∧ m < 18446744073709551616 := by
  simp only [Lit.wf, Bool.and_eq_true, decide_eq_true_eq] at h
  have e1 : IntKind.u64.min = 0 := rfl
  have e2 : IntKind.u64.max = 18446744073709551615 := rfl
  exact ⟨n.toNat, by omega, by omega⟩
end
section
open Go.RowKit Go.Deep

/-- Of a pair skipped to n, at an age: what Seal makes of nothing. -/
theorem seal_nil_v (made now : Int) (n : Nat) (ht : timeV now = true) (hn : n < 18446744073709551616) : sealV 2 made n ⟨#[97, 49]⟩ now [] = if ageV made now < 180000 ∧ n < 18446744073709543423 then (sealM 2 n ⟨#[97, 49]⟩ [], 0, n + 1) else (zeroG, 10, n) := by
  unfold sealV
  rw [if_neg (by rw [ht]; decide)]
  by_cases h : ageV made now < 180000 ∧ n < 18446744073709543423
  · rw [if_pos h, if_neg (by omega), if_neg (by show ¬ 2000 < 0; omega), if_pos (right_seal tn_a1 (by omega) (by show 0 ≤ 10000; omega) hn)]
  · rw [if_neg h, if_pos (by omega)]
theorem open_nil_v (made now : Int) (n : Nat) (L : List Nat) (ht : timeV now = true) (hn : n < 18446744073709543423) : openPV 2 made ⟨#[97, 49]⟩ L now (sealM 2 n ⟨#[97, 49]⟩ []) = if 180000 ≤ ageV made now then ([], 10, L) else if wouldL L n ≠ 0 then ([], 9, L) else ([], 0, takeL L n) := by
  have hr : rightM (sealM 2 n ⟨#[97, 49]⟩ []) = true := right_seal tn_a1 (by omega) (by show 0 ≤ 10000; omega) (by omega)
  have hx : openT (sealM 2 n ⟨#[97, 49]⟩ []).x10 ⟨#[97, 49]⟩ (sealM 2 n ⟨#[97, 49]⟩ []).c ⟨#[48]⟩ = (makeV 4 0 [] [], 0) := by
    show openT (sealT n ⟨#[97, 49]⟩ []) ⟨#[97, 49]⟩ n ⟨#[48]⟩ = _
    rw [open_sealT tn_a1 (by omega) (by show 0 ≤ 10000; omega) (by omega), if_pos ⟨rfl, rfl⟩]
  have hc : (sealM 2 n ⟨#[97, 49]⟩ []).c = n := rfl
  unfold openPV
  rw [if_neg (fun h => h ⟨rfl, hr⟩), if_neg (by show ¬ (2 ≠ 2); simp), if_neg (by rw [ht]; decide), hx, hc]
  by_cases ha : 180000 ≤ ageV made now
  · rw [if_pos (.inl ha), if_pos ha]
  · rw [if_neg (by omega), if_neg ha]
    by_cases hw : wouldL L n ≠ 0
    · rw [if_pos hw, if_pos hw]
    · rw [if_neg hw, if_neg hw, if_neg (fun h => h rfl), byt_data [] (by show 0 ≤ 30000; omega), if_neg (by decide)]
theorem would_first (n : Nat) (hn : n < 18446744073709543423) : wouldL [] n = 0 ∧ takeL [] n = [n] ∧ wouldL [n] n = 9 := by
  have h1 : wouldL [] n = 0 := by unfold wouldL; rw [if_neg (by omega), if_neg (by simp)]
  refine ⟨h1, by unfold takeL; rw [if_pos h1]; rfl, ?_⟩
  unfold wouldL
  rw [if_neg (by omega), if_pos ⟨by simp, .inl (by simp)⟩]
theorem pl_yes (w : World) (g c : Nat) (made now : Int) (n : Nat) (hp : PairIs w g c ⟨#[97, 49]⟩ ⟨#[97, 50]⟩ 1 2 true made n) (hm0 : 0 ≤ made) (hm1 : made ≤ 1125899906842624) (ht : timeV now = true) (ha : ageV made now < 180000) (hn : n < 18446744073709543423) (htab : Tab w) :
    Calls Tryd.prog 9 #[.pointer (some ⟨g, 0, none⟩), .int .i64 now, .slice none 0 0] w fun e w' => e = .returned (.tuple #[.agg #[.int .i64 4, .int .u32 0, .int .u32 2, .int .u64 (n : Nat), .string ⟨#[]⟩, .string ⟨#[]⟩, .string ⟨#[]⟩, .string ⟨#[]⟩, .string ⟨#[]⟩, .string ⟨#[]⟩, .string (sealT n ⟨#[97, 49]⟩ []), .string ⟨#[]⟩, .string ⟨#[]⟩], .int .i64 0]) ∧ PairIs w' g c ⟨#[97, 49]⟩ ⟨#[97, 50]⟩ 1 2 true made ((n + 1 : Nat) : Int) ∧ Only [g] w w' := by
  refine (Seal_any w g c ⟨#[97, 49]⟩ ⟨#[97, 50]⟩ 1 2 true made n hp now hm0 hm1 none 0 [] (sz2 _ _) (Rd.nil _ _) htab (by omega)).mono ?_
  intro e w' h
  unfold SealPost at h
  rw [seal_nil_v made now n ht (by omega), if_pos ⟨ha, hn⟩] at h
  exact h
theorem pl_no (w : World) (g c : Nat) (made now : Int) (n : Nat) (hp : PairIs w g c ⟨#[97, 49]⟩ ⟨#[97, 50]⟩ 1 2 true made n) (hm0 : 0 ≤ made) (hm1 : made ≤ 1125899906842624) (ht : timeV now = true) (hn2 : n < 18446744073709551616) (ha : ¬ (ageV made now < 180000 ∧ n < 18446744073709543423)) (htab : Tab w) :
    Calls Tryd.prog 9 #[.pointer (some ⟨g, 0, none⟩), .int .i64 now, .slice none 0 0] w fun e w' => e = .returned (.tuple #[.agg #[.int .i64 0, .int .u32 0, .int .u32 0, .int .u64 0, .string ⟨#[]⟩, .string ⟨#[]⟩, .string ⟨#[]⟩, .string ⟨#[]⟩, .string ⟨#[]⟩, .string ⟨#[]⟩, .string ⟨#[]⟩, .string ⟨#[]⟩, .string ⟨#[]⟩], .int .i64 10]) ∧ PairIs w' g c ⟨#[97, 49]⟩ ⟨#[97, 50]⟩ 1 2 true made n ∧ Only [g] w w' := by
  refine (Seal_any w g c ⟨#[97, 49]⟩ ⟨#[97, 50]⟩ 1 2 true made n hp now hm0 hm1 none 0 [] (sz2 _ _) (Rd.nil _ _) htab (by omega)).mono ?_
  intro e w' h
  unfold SealPost at h
  rw [seal_nil_v made now n ht hn2, if_neg ha] at h
  exact h
def plV (made now : Int) (n : Nat) (L : List Nat) : Int × List Nat := if 180000 ≤ ageV made now then (10, L) else if wouldL L n ≠ 0 then (9, L) else (0, takeL L n)
theorem pl_open (w : World) (q d : Nat) (made now : Int) (n : Nat) (L : List Nat) (hp : PairIs w q d ⟨#[97, 50]⟩ ⟨#[97, 49]⟩ 2 1 false made 0) (hw : WinSet w d L) (hm0 : 0 ≤ made) (hm1 : made ≤ 1125899906842624) (ht : timeV now = true) (hn : n < 18446744073709543423) (hL : L = [] ∨ L = [n]) (r : Int × List Nat) (hr : plV made now n L = r) :
    Calls Tryd.prog 12 #[.pointer (some ⟨q, 0, none⟩), .int .i64 now, .agg #[.int .i64 4, .int .u32 0, .int .u32 2, .int .u64 (n : Nat), .string ⟨#[]⟩, .string ⟨#[]⟩, .string ⟨#[]⟩, .string ⟨#[]⟩, .string ⟨#[]⟩, .string ⟨#[]⟩, .string (sealT n ⟨#[97, 49]⟩ []), .string ⟨#[]⟩, .string ⟨#[]⟩]] w fun e w' => (∃ v, e = .returned (.tuple #[v, .int .i64 r.1])) ∧ PairIs w' q d ⟨#[97, 50]⟩ ⟨#[97, 49]⟩ 2 1 false made 0 ∧ WinSet w' d r.2 ∧ Only [d] w w' := by
  refine (Open_pair_any w q d ⟨#[97, 50]⟩ ⟨#[97, 49]⟩ 2 1 false made 0 L hp hw now hm0 hm1 (sealM 2 n ⟨#[97, 49]⟩ []) (seal_fine (by omega) (by omega))).mono ?_
  rintro e w' ⟨v, h1, _, h3, h4, h5⟩
  have hv := open_nil_v made now n L ht hn
  subst hr
  unfold plV
  rw [hv] at h1 h4
  by_cases ha : 180000 ≤ ageV made now
  · rw [if_pos ha] at h1 h4 ⊢; exact ⟨⟨v, h1⟩, h3, h4, h5⟩
  · rw [if_neg ha] at h1 h4 ⊢
    obtain ⟨f1, f2, f3⟩ := would_first n hn
    by_cases hw : wouldL L n ≠ 0
    · have e9 : wouldL L n = 9 := by rcases hL with rfl | rfl; (exact absurd f1 hw); exact f3
      rw [if_pos hw] at h1 h4 ⊢; exact ⟨⟨v, h1⟩, h3, h4, h5⟩
    · rw [if_neg hw] at h1 h4 ⊢; exact ⟨⟨v, h1⟩, h3, h4, h5⟩
set_option maxRecDepth 100000 in
set_option maxHeartbeats 12800000 in
theorem pl_out (w : World) (made age : Int) (n : Nat) (htab : Tab w) (h : made < 0 ∨ 1000000000000 < made ∨ age < 0 ∨ 1000000 < age) : Calls Tryd.prog 3 #[.int .i64 made, .int .i64 age, .int .u64 n] w (RetB true w) := by
  have HAW := hide (awake12 w htab)
  unfold RetB at HAW
  clear htab
  by_cases h1 : made < 0
  · clear h
    go_enter Tryd.func3, Tryd.ntmps3
    go_wp2_with (go_at_call 6; refine HAW.out.mono ?_; rintro e w0 ⟨rfl, ho⟩; have HO := hide ho; clear ho HAW)
    go_ret
    exact retb rfl HO.out
  by_cases h2 : 1000000000000 < made
  · clear h
    go_enter Tryd.func3, Tryd.ntmps3
    go_wp2_with (go_at_call 6; refine HAW.out.mono ?_; rintro e w0 ⟨rfl, ho⟩; have HO := hide ho; clear ho HAW)
    go_ret
    exact retb rfl HO.out
  by_cases h3 : age < 0
  · clear h
    go_enter Tryd.func3, Tryd.ntmps3
    go_wp2_with (go_at_call 6; refine HAW.out.mono ?_; rintro e w0 ⟨rfl, ho⟩; have HO := hide ho; clear ho HAW)
    go_ret
    exact retb rfl HO.out
  have h4 : 1000000 < age := by omega
  clear h
  go_enter Tryd.func3, Tryd.ntmps3
  go_wp2_with (go_at_call 6; refine HAW.out.mono ?_; rintro e w0 ⟨rfl, ho⟩; have HO := hide ho; clear ho HAW)
  go_ret
  exact retb rfl HO.out
set_option maxRecDepth 100000 in
set_option maxHeartbeats 12800000 in
theorem pl_aged (w : World) (made age : Int) (n : Nat) (htab : Tab w) (hn2 : n < 18446744073709551616) (h0 : 0 ≤ made) (h1 : made ≤ 1000000000000) (h2 : 0 ≤ age) (h3 : age ≤ 1000000) (ho : ¬ age < 180000) : Calls Tryd.prog 3 #[.int .i64 made, .int .i64 age, .int .u64 n] w (RetB true w) := by
  have hm0 : 0 ≤ made := h0
  have hm1 : made ≤ 1125899906842624 := by omega
  have HNP := hide (fun W => pair_new W ⟨#[97, 49]⟩ ⟨#[97, 50]⟩ 1 2 true made (sz2 _ _) (sz2 _ _) pk1 pk2 hm0 hm1)
  have HNQ := hide (fun W => pair_new W ⟨#[97, 50]⟩ ⟨#[97, 49]⟩ 2 1 false made (sz2 _ _) (sz2 _ _) pk2 pk1 hm0 hm1)
  unfold NewPost at HNP HNQ
  have HAW := hide (awake12 w htab)
  unfold RetB at HAW
  have HT := hide htab
  clear htab
  have ht : timeV (made + age) = true := by rw [timeV_iff]; omega
  have hag : ageV made (made + age) = age := by unfold ageV; rw [if_pos (by omega)]; omega
  have hwr : IntKind.i64.wrap (made + age) = made + age := by rw [IntKind.wrap_i64]; omega
  have a1 : decide (made < 0) = false := by rw [decide_eq_false_iff_not]; omega
  have a2 : decide (1000000000000 < made) = false := by rw [decide_eq_false_iff_not]; omega
  have a3 : decide (age < 0) = false := by rw [decide_eq_false_iff_not]; omega
  have a4 : decide (1000000 < age) = false := by rw [decide_eq_false_iff_not]; omega
  have hy : ¬ (age < 180000 ∧ n < 18446744073709543423) := fun h => ho h.1
  have HSL := hide (fun W g c hp htb => pl_no W g c made (made + age) n hp hm0 hm1 ht hn2 (by rw [hag]; exact hy) htb)
  have HFR := hide (fun W g c hp => pfresh_any W g c ⟨#[97, 49]⟩ ⟨#[97, 50]⟩ 1 2 true made n hp (made + age) hm0 hm1)
  have HSN := hide (fun W g c hp => psent_any W g c ⟨#[97, 49]⟩ ⟨#[97, 50]⟩ 1 2 true made n hp)
  rw [ht, hag, show (true && (!decide ((180000 : Int) ≤ age) && decide (n < 18446744073709543423))) = false by
    simp only [Bool.true_and, Bool.and_eq_false_iff, Bool.not_eq_false', decide_eq_true_eq, decide_eq_false_iff_not]
    omega] at HFR
  clear hy ht hag
  clear hm0 hm1 h0 h1 h2 h3 hn2
  go_enter Tryd.func3, Tryd.ntmps3
  go_upto_region 9 with (first
    | (go_at_call 6; refine HAW.out.mono ?_; rintro e w0 ⟨rfl, ho⟩; have HO := hide ho; clear ho HAW)
    | (go_at_call 7; (with_reducible refine (HNP.out _).mono ?_); rintro e w1 ⟨g, c, rfl, hg, hc, hgc, hp, _, ho⟩; have HP := hide hp; have HGL := hide (show g < w1.heap.size from Blk.lt hp); have HGG := hide (show w.heap.size ≤ g from Nat.le_trans HO.out.size hg); replace HO := hide (HO.out.trans ho); clear hg hc hgc hp ho)
    | (go_at_call 7; (with_reducible refine (HNQ.out _).mono ?_); rintro e w2 ⟨q, d, rfl, hq, hd, hqd, hp, hz, ho⟩; have HQ := hide hp; have HD := hide (win_zero hz); have HQL := hide (show w1.heap.size ≤ q ∧ w1.heap.size ≤ d ∧ w.heap.size ≤ w1.heap.size from ⟨hq, hd, HO.out.size⟩); have HQS := hide (show q < w2.heap.size ∧ d < w2.heap.size from ⟨Blk.lt hp, hz.lt⟩); replace HP := hide (PairIs.only HP.out ho (by simp)); replace HO := hide (HO.out.trans ho); clear hq hd hqd hp hz ho)
    | (go_at_call 8; refine (pskip_any _ g c ⟨#[97, 49]⟩ ⟨#[97, 50]⟩ 1 2 true made 0 n HP.out).mono ?_; rw [if_neg (Nat.not_lt_zero n), if_neg (Nat.not_lt_zero n)]; rintro e w3 ⟨rfl, hp, ho⟩; replace HP := hide hp; replace HQ := hide (PairIs.only HQ.out ho (by have := HGL.out; have := HQL.out; simp; omega)); replace HD := hide (HD.out.only ho (by have := HGL.out; have := HQL.out; simp; omega)); replace HO := hide (((HO.out.mono (S' := [g]) (by simp)).trans ho).mono (S' := []) (by intro x hx; right; simp at hx; have := HGG.out; omega)); have HSZ := hide ho.size; clear hp ho)
    | (go_at_call 9; refine (HSL.out _ g c HP.out (HT.out.only HO.out (by simp))).mono ?_; rintro e w4 ⟨rfl, hp, ho⟩; replace HP := hide hp; replace HQ := hide (PairIs.only HQ.out ho (by have := HGL.out; have := HQL.out; simp; omega)); replace HD := hide (HD.out.only ho (by have := HGL.out; have := HQL.out; simp; omega)); replace HO := hide (((HO.out.mono (S' := [g]) (by simp)).trans ho).mono (S' := []) (by intro x hx; right; simp at hx; have := HGG.out; omega)); replace HSZ := hide (Nat.le_trans HSZ.out ho.size); clear hp ho))
  replace HO := hide (HO.out.alloc (.cells #[.int .i64 0, .int .u32 0, .int .u32 0, .int .u64 0, .string ⟨#[]⟩, .string ⟨#[]⟩, .string ⟨#[]⟩, .string ⟨#[]⟩, .string ⟨#[]⟩, .string ⟨#[]⟩, .string ⟨#[]⟩, .string ⟨#[]⟩, .string ⟨#[]⟩] 33))
  replace HP := hide (PairIs.only HP.out ((Only.refl [] _).alloc (.cells #[.int .i64 0, .int .u32 0, .int .u32 0, .int .u64 0, .string ⟨#[]⟩, .string ⟨#[]⟩, .string ⟨#[]⟩, .string ⟨#[]⟩, .string ⟨#[]⟩, .string ⟨#[]⟩, .string ⟨#[]⟩, .string ⟨#[]⟩, .string ⟨#[]⟩] 33)) (by simp))
  generalize (w4.alloc (.cells #[.int .i64 0, .int .u32 0, .int .u32 0, .int .u64 0, .string ⟨#[]⟩, .string ⟨#[]⟩, .string ⟨#[]⟩, .string ⟨#[]⟩, .string ⟨#[]⟩, .string ⟨#[]⟩, .string ⟨#[]⟩, .string ⟨#[]⟩, .string ⟨#[]⟩] 33)) = w5 at *
  go_wp2_with (first
    | (go_at_call 10; refine (HFR.out _ g c HP.out).mono ?_; rintro e wz ⟨rfl, rfl⟩)
    | (go_at_call 11; refine (HSN.out _ g c HP.out).mono ?_; rintro e wz ⟨rfl, rfl⟩))
  go_ret
  exact retb rfl HO.out
set_option maxRecDepth 100000 in
set_option maxHeartbeats 12800000 in
theorem pl_many (w : World) (made age : Int) (n : Nat) (htab : Tab w) (hn2 : n < 18446744073709551616) (h0 : 0 ≤ made) (h1 : made ≤ 1000000000000) (h2 : 0 ≤ age) (h3 : age ≤ 1000000) (ho : age < 180000) (hn : ¬ n < 18446744073709543423) : Calls Tryd.prog 3 #[.int .i64 made, .int .i64 age, .int .u64 n] w (RetB true w) := by
  have hm0 : 0 ≤ made := h0
  have hm1 : made ≤ 1125899906842624 := by omega
  have HNP := hide (fun W => pair_new W ⟨#[97, 49]⟩ ⟨#[97, 50]⟩ 1 2 true made (sz2 _ _) (sz2 _ _) pk1 pk2 hm0 hm1)
  have HNQ := hide (fun W => pair_new W ⟨#[97, 50]⟩ ⟨#[97, 49]⟩ 2 1 false made (sz2 _ _) (sz2 _ _) pk2 pk1 hm0 hm1)
  unfold NewPost at HNP HNQ
  have HAW := hide (awake12 w htab)
  unfold RetB at HAW
  have HT := hide htab
  clear htab
  have ht : timeV (made + age) = true := by rw [timeV_iff]; omega
  have hag : ageV made (made + age) = age := by unfold ageV; rw [if_pos (by omega)]; omega
  have hwr : IntKind.i64.wrap (made + age) = made + age := by rw [IntKind.wrap_i64]; omega
  have a1 : decide (made < 0) = false := by rw [decide_eq_false_iff_not]; omega
  have a2 : decide (1000000000000 < made) = false := by rw [decide_eq_false_iff_not]; omega
  have a3 : decide (age < 0) = false := by rw [decide_eq_false_iff_not]; omega
  have a4 : decide (1000000 < age) = false := by rw [decide_eq_false_iff_not]; omega
  have hy : ¬ (age < 180000 ∧ n < 18446744073709543423) := fun h => hn h.2
  have HB0 := hide (show decide (age < 180000) = true by rw [decide_eq_true_iff]; exact ho)
  have HB1 := hide (show decide ((n : Int) < 18446744073709543423) = false by rw [decide_eq_false_iff_not]; omega)
  have HSL := hide (fun W g c hp htb => pl_no W g c made (made + age) n hp hm0 hm1 ht hn2 (by rw [hag]; exact hy) htb)
  have HFR := hide (fun W g c hp => pfresh_any W g c ⟨#[97, 49]⟩ ⟨#[97, 50]⟩ 1 2 true made n hp (made + age) hm0 hm1)
  have HSN := hide (fun W g c hp => psent_any W g c ⟨#[97, 49]⟩ ⟨#[97, 50]⟩ 1 2 true made n hp)
  rw [ht, hag, show (true && (!decide ((180000 : Int) ≤ age) && decide (n < 18446744073709543423))) = false by
    simp only [Bool.true_and, Bool.and_eq_false_iff, Bool.not_eq_false', decide_eq_true_eq, decide_eq_false_iff_not]
    omega] at HFR
  clear hy ht hag hn ho
  clear hm0 hm1 h0 h1 h2 h3 hn2
  go_enter Tryd.func3, Tryd.ntmps3
  go_upto_region 9 with (first
    | (go_at_call 6; refine HAW.out.mono ?_; rintro e w0 ⟨rfl, ho⟩; have HO := hide ho; clear ho HAW)
    | (go_at_call 7; (with_reducible refine (HNP.out _).mono ?_); rintro e w1 ⟨g, c, rfl, hg, hc, hgc, hp, _, ho⟩; have HP := hide hp; have HGL := hide (show g < w1.heap.size from Blk.lt hp); have HGG := hide (show w.heap.size ≤ g from Nat.le_trans HO.out.size hg); replace HO := hide (HO.out.trans ho); clear hg hc hgc hp ho)
    | (go_at_call 7; (with_reducible refine (HNQ.out _).mono ?_); rintro e w2 ⟨q, d, rfl, hq, hd, hqd, hp, hz, ho⟩; have HQ := hide hp; have HD := hide (win_zero hz); have HQL := hide (show w1.heap.size ≤ q ∧ w1.heap.size ≤ d ∧ w.heap.size ≤ w1.heap.size from ⟨hq, hd, HO.out.size⟩); have HQS := hide (show q < w2.heap.size ∧ d < w2.heap.size from ⟨Blk.lt hp, hz.lt⟩); replace HP := hide (PairIs.only HP.out ho (by simp)); replace HO := hide (HO.out.trans ho); clear hq hd hqd hp hz ho)
    | (go_at_call 8; refine (pskip_any _ g c ⟨#[97, 49]⟩ ⟨#[97, 50]⟩ 1 2 true made 0 n HP.out).mono ?_; rw [if_neg (Nat.not_lt_zero n), if_neg (Nat.not_lt_zero n)]; rintro e w3 ⟨rfl, hp, ho⟩; replace HP := hide hp; replace HQ := hide (PairIs.only HQ.out ho (by have := HGL.out; have := HQL.out; simp; omega)); replace HD := hide (HD.out.only ho (by have := HGL.out; have := HQL.out; simp; omega)); replace HO := hide (((HO.out.mono (S' := [g]) (by simp)).trans ho).mono (S' := []) (by intro x hx; right; simp at hx; have := HGG.out; omega)); have HSZ := hide ho.size; clear hp ho)
    | (go_at_call 9; refine (HSL.out _ g c HP.out (HT.out.only HO.out (by simp))).mono ?_; rintro e w4 ⟨rfl, hp, ho⟩; replace HP := hide hp; replace HQ := hide (PairIs.only HQ.out ho (by have := HGL.out; have := HQL.out; simp; omega)); replace HD := hide (HD.out.only ho (by have := HGL.out; have := HQL.out; simp; omega)); replace HO := hide (((HO.out.mono (S' := [g]) (by simp)).trans ho).mono (S' := []) (by intro x hx; right; simp at hx; have := HGG.out; omega)); replace HSZ := hide (Nat.le_trans HSZ.out ho.size); clear hp ho))
  replace HO := hide (HO.out.alloc (.cells #[.int .i64 0, .int .u32 0, .int .u32 0, .int .u64 0, .string ⟨#[]⟩, .string ⟨#[]⟩, .string ⟨#[]⟩, .string ⟨#[]⟩, .string ⟨#[]⟩, .string ⟨#[]⟩, .string ⟨#[]⟩, .string ⟨#[]⟩, .string ⟨#[]⟩] 33))
  replace HP := hide (PairIs.only HP.out ((Only.refl [] _).alloc (.cells #[.int .i64 0, .int .u32 0, .int .u32 0, .int .u64 0, .string ⟨#[]⟩, .string ⟨#[]⟩, .string ⟨#[]⟩, .string ⟨#[]⟩, .string ⟨#[]⟩, .string ⟨#[]⟩, .string ⟨#[]⟩, .string ⟨#[]⟩, .string ⟨#[]⟩] 33)) (by simp))
  generalize (w4.alloc (.cells #[.int .i64 0, .int .u32 0, .int .u32 0, .int .u64 0, .string ⟨#[]⟩, .string ⟨#[]⟩, .string ⟨#[]⟩, .string ⟨#[]⟩, .string ⟨#[]⟩, .string ⟨#[]⟩, .string ⟨#[]⟩, .string ⟨#[]⟩, .string ⟨#[]⟩] 33)) = w5 at *
  have b0 := HB0.out
  have b1 := HB1.out
  go_wp2_with (first
    | (go_at_call 10; refine (HFR.out _ g c HP.out).mono ?_; rintro e wz ⟨rfl, rfl⟩)
    | (go_at_call 11; refine (HSN.out _ g c HP.out).mono ?_; rintro e wz ⟨rfl, rfl⟩))
  go_ret
  exact retb rfl HO.out
set_option maxRecDepth 100000 in
set_option maxHeartbeats 12800000 in
theorem pl_young (w : World) (made age : Int) (n : Nat) (htab : Tab w) (hn2 : n < 18446744073709551616) (h0 : 0 ≤ made) (h1 : made ≤ 1000000000000) (h2 : 0 ≤ age) (h3 : age ≤ 1000000) (ho : age < 180000) (hn : n < 18446744073709543423) (hl : n + 1 < 18446744073709543423) : Calls Tryd.prog 3 #[.int .i64 made, .int .i64 age, .int .u64 n] w (RetB true w) := by
  have hm0 : 0 ≤ made := h0
  have hm1 : made ≤ 1125899906842624 := by omega
  have HNP := hide (fun W => pair_new W ⟨#[97, 49]⟩ ⟨#[97, 50]⟩ 1 2 true made (sz2 _ _) (sz2 _ _) pk1 pk2 hm0 hm1)
  have HNQ := hide (fun W => pair_new W ⟨#[97, 50]⟩ ⟨#[97, 49]⟩ 2 1 false made (sz2 _ _) (sz2 _ _) pk2 pk1 hm0 hm1)
  unfold NewPost at HNP HNQ
  have HAW := hide (awake12 w htab)
  unfold RetB at HAW
  have HT := hide htab
  clear htab
  have ht : timeV (made + age) = true := by rw [timeV_iff]; omega
  have hag : ageV made (made + age) = age := by unfold ageV; rw [if_pos (by omega)]; omega
  have hwr : IntKind.i64.wrap (made + age) = made + age := by rw [IntKind.wrap_i64]; omega
  have a1 : decide (made < 0) = false := by rw [decide_eq_false_iff_not]; omega
  have a2 : decide (1000000000000 < made) = false := by rw [decide_eq_false_iff_not]; omega
  have a3 : decide (age < 0) = false := by rw [decide_eq_false_iff_not]; omega
  have a4 : decide (1000000 < age) = false := by rw [decide_eq_false_iff_not]; omega
  have hm3 : 0 ≤ made + 180000 := by omega
  have ht3 : timeV (made + 180000) = true := by rw [timeV_iff]; omega
  have hag3 : ageV made (made + 180000) = 180000 := by unfold ageV; rw [if_pos (by omega)]; omega
  have hwr3 : IntKind.i64.wrap (made + 180000) = made + 180000 := by rw [IntKind.wrap_i64]; omega
  have hwn : IntKind.u64.wrap ((n : Int) + 1) = (n : Int) + 1 := by rw [IntKind.wrap_u64]; omega
  obtain ⟨f1, f2, f3⟩ := would_first n hn
  have HSL := hide (fun W g c hp htb => pl_yes W g c made (made + age) n hp hm0 hm1 ht (by rw [hag]; exact ho) hn htb)
  have HFR := hide (fun W g c hp => pfresh_any W g c ⟨#[97, 49]⟩ ⟨#[97, 50]⟩ 1 2 true made (n + 1) hp (made + age) hm0 hm1)
  have HSN := hide (fun W g c hp => psent_any W g c ⟨#[97, 49]⟩ ⟨#[97, 50]⟩ 1 2 true made ((n : Int) + 1) hp)
  have HO1 := hide (fun W q d hp hw => pl_open W q d made (made + age) n [] hp hw hm0 hm1 ht hn (.inl rfl) (0, [n]) (by unfold plV; rw [hag, if_neg (by omega), if_neg (fun h => h f1), f2]))
  have HO2 := hide (fun W q d hp hw => pl_open W q d made (made + age) n [n] hp hw hm0 hm1 ht hn (.inr rfl) (9, [n]) (by unfold plV; rw [hag, if_neg (by omega), f3, if_pos (by decide)]))
  have HO3 := hide (fun W q d hp hw => pl_open W q d made (made + 180000) n [n] hp hw hm0 hm1 ht3 hn (.inr rfl) (10, [n]) (by unfold plV; rw [hag3, if_pos (by omega)]))
  simp only at HO1 HO2 HO3
  rw [ht, hag, show decide ((180000 : Int) ≤ age) = false by rw [decide_eq_false_iff_not]; omega] at HFR
  rw [show ((n + 1 : Nat) : Int) = (n : Int) + 1 from rfl] at HSL HFR
  have HB0 := hide (show decide (age < 180000) = true by rw [decide_eq_true_iff]; exact ho)
  have HB1 := hide (show decide ((n : Int) < 18446744073709543423) = true by rw [decide_eq_true_iff]; omega)
  rw [show decide (n + 1 < 18446744073709543423) = true by exact decide_eq_true hl] at HFR
  simp only [Bool.not_false, Bool.true_and] at HFR
  have HB2 := hide (show decide ((n : Int) + 1 < 18446744073709543423) = true by rw [decide_eq_true_iff]; omega)
  clear ht hag ht3 hag3 hm3 f1 f2 f3 ho hn hl
  generalize sealT n ⟨#[97, 49]⟩ [] = x10 at *
  clear hm0 hm1 h0 h1 h2 h3 hn2
  go_enter Tryd.func3, Tryd.ntmps3
  go_upto_region 9 with (first
    | (go_at_call 6; refine HAW.out.mono ?_; rintro e w0 ⟨rfl, ho⟩; have HO := hide ho; clear ho HAW)
    | (go_at_call 7; (with_reducible refine (HNP.out _).mono ?_); rintro e w1 ⟨g, c, rfl, hg, hc, hgc, hp, _, ho⟩; have HP := hide hp; have HGL := hide (show g < w1.heap.size from Blk.lt hp); have HGG := hide (show w.heap.size ≤ g from Nat.le_trans HO.out.size hg); replace HO := hide (HO.out.trans ho); clear hg hc hgc hp ho)
    | (go_at_call 7; (with_reducible refine (HNQ.out _).mono ?_); rintro e w2 ⟨q, d, rfl, hq, hd, hqd, hp, hz, ho⟩; have HQ := hide hp; have HD := hide (win_zero hz); have HQL := hide (show w1.heap.size ≤ q ∧ w1.heap.size ≤ d ∧ w.heap.size ≤ w1.heap.size from ⟨hq, hd, HO.out.size⟩); have HQS := hide (show q < w2.heap.size ∧ d < w2.heap.size from ⟨Blk.lt hp, hz.lt⟩); replace HP := hide (PairIs.only HP.out ho (by simp)); replace HO := hide (HO.out.trans ho); clear hq hd hqd hp hz ho)
    | (go_at_call 8; refine (pskip_any _ g c ⟨#[97, 49]⟩ ⟨#[97, 50]⟩ 1 2 true made 0 n HP.out).mono ?_; rw [if_neg (Nat.not_lt_zero n), if_neg (Nat.not_lt_zero n)]; rintro e w3 ⟨rfl, hp, ho⟩; replace HP := hide hp; replace HQ := hide (PairIs.only HQ.out ho (by have := HGL.out; have := HQL.out; simp; omega)); replace HD := hide (HD.out.only ho (by have := HGL.out; have := HQL.out; simp; omega)); replace HO := hide (((HO.out.mono (S' := [g]) (by simp)).trans ho).mono (S' := []) (by intro x hx; right; simp at hx; have := HGG.out; omega)); have HSZ := hide ho.size; clear hp ho)
    | (go_at_call 9; refine (HSL.out _ g c HP.out (HT.out.only HO.out (by simp))).mono ?_; rintro e w4 ⟨rfl, hp, ho⟩; replace HP := hide hp; replace HQ := hide (PairIs.only HQ.out ho (by have := HGL.out; have := HQL.out; simp; omega)); replace HD := hide (HD.out.only ho (by have := HGL.out; have := HQL.out; simp; omega)); replace HO := hide (((HO.out.mono (S' := [g]) (by simp)).trans ho).mono (S' := []) (by intro x hx; right; simp at hx; have := HGG.out; omega)); replace HSZ := hide (Nat.le_trans HSZ.out ho.size); clear hp ho))
  have HMB := hide (Blk.new w4 33 #[.int .i64 4, .int .u32 0, .int .u32 2, .int .u64 (n : Nat), .string ⟨#[]⟩, .string ⟨#[]⟩, .string ⟨#[]⟩, .string ⟨#[]⟩, .string ⟨#[]⟩, .string ⟨#[]⟩, .string x10, .string ⟨#[]⟩, .string ⟨#[]⟩])
  replace HO := hide (HO.out.alloc (.cells #[.int .i64 4, .int .u32 0, .int .u32 2, .int .u64 (n : Nat), .string ⟨#[]⟩, .string ⟨#[]⟩, .string ⟨#[]⟩, .string ⟨#[]⟩, .string ⟨#[]⟩, .string ⟨#[]⟩, .string x10, .string ⟨#[]⟩, .string ⟨#[]⟩] 33))
  replace HP := hide (PairIs.only HP.out ((Only.refl [] _).alloc (.cells #[.int .i64 4, .int .u32 0, .int .u32 2, .int .u64 (n : Nat), .string ⟨#[]⟩, .string ⟨#[]⟩, .string ⟨#[]⟩, .string ⟨#[]⟩, .string ⟨#[]⟩, .string ⟨#[]⟩, .string x10, .string ⟨#[]⟩, .string ⟨#[]⟩] 33)) (by simp))
  replace HQ := hide (PairIs.only HQ.out ((Only.refl [] _).alloc (.cells #[.int .i64 4, .int .u32 0, .int .u32 2, .int .u64 (n : Nat), .string ⟨#[]⟩, .string ⟨#[]⟩, .string ⟨#[]⟩, .string ⟨#[]⟩, .string ⟨#[]⟩, .string ⟨#[]⟩, .string x10, .string ⟨#[]⟩, .string ⟨#[]⟩] 33)) (by simp))
  replace HD := hide (HD.out.only ((Only.refl [] _).alloc (.cells #[.int .i64 4, .int .u32 0, .int .u32 2, .int .u64 (n : Nat), .string ⟨#[]⟩, .string ⟨#[]⟩, .string ⟨#[]⟩, .string ⟨#[]⟩, .string ⟨#[]⟩, .string ⟨#[]⟩, .string x10, .string ⟨#[]⟩, .string ⟨#[]⟩] 33)) (by simp))
  have HDM := hide (show w4.heap.size ≠ d by have := HSZ.out; have := HQS.out; omega)
  generalize (w4.alloc (.cells #[.int .i64 4, .int .u32 0, .int .u32 2, .int .u64 (n : Nat), .string ⟨#[]⟩, .string ⟨#[]⟩, .string ⟨#[]⟩, .string ⟨#[]⟩, .string ⟨#[]⟩, .string ⟨#[]⟩, .string x10, .string ⟨#[]⟩, .string ⟨#[]⟩] 33)) = w5 at *
  have m0 := HMB.out.cell 0; have m1 := HMB.out.cell 1; have m2 := HMB.out.cell 2; have m3 := HMB.out.cell 3; have m4 := HMB.out.cell 4; have m5 := HMB.out.cell 5; have m6 := HMB.out.cell 6; have m7 := HMB.out.cell 7; have m8 := HMB.out.cell 8; have m9 := HMB.out.cell 9; have m10 := HMB.out.cell 10; have m11 := HMB.out.cell 11; have m12 := HMB.out.cell 12; simp at m0 m1 m2 m3 m4 m5 m6 m7 m8 m9 m10 m11 m12
  have b0 := HB0.out
  have b1 := HB1.out
  have b2 := HB2.out
  go_wp2_with (first
    | (go_at_call 10; refine (HFR.out _ g c HP.out).mono ?_; rintro e wz ⟨rfl, rfl⟩)
    | (go_at_call 11; refine (HSN.out _ g c HP.out).mono ?_; rintro e wz ⟨rfl, rfl⟩)
    | (go_at_call 12; (with_reducible refine (HO1.out _ q d HQ.out HD.out).mono ?_); rintro e w6 ⟨⟨vw6, rfl⟩, hq, hd, ho⟩; replace HQ := hide hq; replace HD := hide hd; replace HMB := hide (HMB.out.only ho (by have := HDM.out; simp; omega)); replace HP := hide (PairIs.only HP.out ho (by have := HGL.out; have := HQL.out; simp; omega)); replace HO := hide (((HO.out.mono (S' := [d]) (by simp)).trans ho).mono (S' := []) (by intro x hx; right; simp at hx; have := HQL.out; omega)); clear hq hd ho; clear m0 m1 m2 m3 m4 m5 m6 m7 m8 m9 m10 m11 m12; have m0 := HMB.out.cell 0; have m1 := HMB.out.cell 1; have m2 := HMB.out.cell 2; have m3 := HMB.out.cell 3; have m4 := HMB.out.cell 4; have m5 := HMB.out.cell 5; have m6 := HMB.out.cell 6; have m7 := HMB.out.cell 7; have m8 := HMB.out.cell 8; have m9 := HMB.out.cell 9; have m10 := HMB.out.cell 10; have m11 := HMB.out.cell 11; have m12 := HMB.out.cell 12; simp at m0 m1 m2 m3 m4 m5 m6 m7 m8 m9 m10 m11 m12)
    | (go_at_call 12; (with_reducible refine (HO2.out _ q d HQ.out HD.out).mono ?_); rintro e w7 ⟨⟨vw7, rfl⟩, hq, hd, ho⟩; replace HQ := hide hq; replace HD := hide hd; replace HMB := hide (HMB.out.only ho (by have := HDM.out; simp; omega)); replace HP := hide (PairIs.only HP.out ho (by have := HGL.out; have := HQL.out; simp; omega)); replace HO := hide (((HO.out.mono (S' := [d]) (by simp)).trans ho).mono (S' := []) (by intro x hx; right; simp at hx; have := HQL.out; omega)); clear hq hd ho; clear m0 m1 m2 m3 m4 m5 m6 m7 m8 m9 m10 m11 m12; have m0 := HMB.out.cell 0; have m1 := HMB.out.cell 1; have m2 := HMB.out.cell 2; have m3 := HMB.out.cell 3; have m4 := HMB.out.cell 4; have m5 := HMB.out.cell 5; have m6 := HMB.out.cell 6; have m7 := HMB.out.cell 7; have m8 := HMB.out.cell 8; have m9 := HMB.out.cell 9; have m10 := HMB.out.cell 10; have m11 := HMB.out.cell 11; have m12 := HMB.out.cell 12; simp at m0 m1 m2 m3 m4 m5 m6 m7 m8 m9 m10 m11 m12)
    | (go_at_call 12; (with_reducible refine (HO3.out _ q d HQ.out HD.out).mono ?_); rintro e w8 ⟨⟨vw8, rfl⟩, hq, hd, ho⟩; replace HQ := hide hq; replace HD := hide hd; replace HMB := hide (HMB.out.only ho (by have := HDM.out; simp; omega)); replace HP := hide (PairIs.only HP.out ho (by have := HGL.out; have := HQL.out; simp; omega)); replace HO := hide (((HO.out.mono (S' := [d]) (by simp)).trans ho).mono (S' := []) (by intro x hx; right; simp at hx; have := HQL.out; omega)); clear hq hd ho; clear m0 m1 m2 m3 m4 m5 m6 m7 m8 m9 m10 m11 m12; have m0 := HMB.out.cell 0; have m1 := HMB.out.cell 1; have m2 := HMB.out.cell 2; have m3 := HMB.out.cell 3; have m4 := HMB.out.cell 4; have m5 := HMB.out.cell 5; have m6 := HMB.out.cell 6; have m7 := HMB.out.cell 7; have m8 := HMB.out.cell 8; have m9 := HMB.out.cell 9; have m10 := HMB.out.cell 10; have m11 := HMB.out.cell 11; have m12 := HMB.out.cell 12; simp at m0 m1 m2 m3 m4 m5 m6 m7 m8 m9 m10 m11 m12))
  go_ret
  exact retb rfl HO.out
set_option maxRecDepth 100000 in
set_option maxHeartbeats 12800000 in
theorem pl_last (w : World) (made age : Int) (n : Nat) (htab : Tab w) (hn2 : n < 18446744073709551616) (h0 : 0 ≤ made) (h1 : made ≤ 1000000000000) (h2 : 0 ≤ age) (h3 : age ≤ 1000000) (ho : age < 180000) (hn : n < 18446744073709543423) (hl : ¬ n + 1 < 18446744073709543423) : Calls Tryd.prog 3 #[.int .i64 made, .int .i64 age, .int .u64 n] w (RetB true w) := by
  have hm0 : 0 ≤ made := h0
  have hm1 : made ≤ 1125899906842624 := by omega
  have HNP := hide (fun W => pair_new W ⟨#[97, 49]⟩ ⟨#[97, 50]⟩ 1 2 true made (sz2 _ _) (sz2 _ _) pk1 pk2 hm0 hm1)
  have HNQ := hide (fun W => pair_new W ⟨#[97, 50]⟩ ⟨#[97, 49]⟩ 2 1 false made (sz2 _ _) (sz2 _ _) pk2 pk1 hm0 hm1)
  unfold NewPost at HNP HNQ
  have HAW := hide (awake12 w htab)
  unfold RetB at HAW
  have HT := hide htab
  clear htab
  have ht : timeV (made + age) = true := by rw [timeV_iff]; omega
  have hag : ageV made (made + age) = age := by unfold ageV; rw [if_pos (by omega)]; omega
  have hwr : IntKind.i64.wrap (made + age) = made + age := by rw [IntKind.wrap_i64]; omega
  have a1 : decide (made < 0) = false := by rw [decide_eq_false_iff_not]; omega
  have a2 : decide (1000000000000 < made) = false := by rw [decide_eq_false_iff_not]; omega
  have a3 : decide (age < 0) = false := by rw [decide_eq_false_iff_not]; omega
  have a4 : decide (1000000 < age) = false := by rw [decide_eq_false_iff_not]; omega
  have hm3 : 0 ≤ made + 180000 := by omega
  have ht3 : timeV (made + 180000) = true := by rw [timeV_iff]; omega
  have hag3 : ageV made (made + 180000) = 180000 := by unfold ageV; rw [if_pos (by omega)]; omega
  have hwr3 : IntKind.i64.wrap (made + 180000) = made + 180000 := by rw [IntKind.wrap_i64]; omega
  have hwn : IntKind.u64.wrap ((n : Int) + 1) = (n : Int) + 1 := by rw [IntKind.wrap_u64]; omega
  obtain ⟨f1, f2, f3⟩ := would_first n hn
  have HSL := hide (fun W g c hp htb => pl_yes W g c made (made + age) n hp hm0 hm1 ht (by rw [hag]; exact ho) hn htb)
  have HFR := hide (fun W g c hp => pfresh_any W g c ⟨#[97, 49]⟩ ⟨#[97, 50]⟩ 1 2 true made (n + 1) hp (made + age) hm0 hm1)
  have HSN := hide (fun W g c hp => psent_any W g c ⟨#[97, 49]⟩ ⟨#[97, 50]⟩ 1 2 true made ((n : Int) + 1) hp)
  have HO1 := hide (fun W q d hp hw => pl_open W q d made (made + age) n [] hp hw hm0 hm1 ht hn (.inl rfl) (0, [n]) (by unfold plV; rw [hag, if_neg (by omega), if_neg (fun h => h f1), f2]))
  have HO2 := hide (fun W q d hp hw => pl_open W q d made (made + age) n [n] hp hw hm0 hm1 ht hn (.inr rfl) (9, [n]) (by unfold plV; rw [hag, if_neg (by omega), f3, if_pos (by decide)]))
  have HO3 := hide (fun W q d hp hw => pl_open W q d made (made + 180000) n [n] hp hw hm0 hm1 ht3 hn (.inr rfl) (10, [n]) (by unfold plV; rw [hag3, if_pos (by omega)]))
  simp only at HO1 HO2 HO3
  rw [ht, hag, show decide ((180000 : Int) ≤ age) = false by rw [decide_eq_false_iff_not]; omega] at HFR
  rw [show ((n + 1 : Nat) : Int) = (n : Int) + 1 from rfl] at HSL HFR
  have HB0 := hide (show decide (age < 180000) = true by rw [decide_eq_true_iff]; exact ho)
  have HB1 := hide (show decide ((n : Int) < 18446744073709543423) = true by rw [decide_eq_true_iff]; omega)
  rw [show decide (n + 1 < 18446744073709543423) = false by exact decide_eq_false hl] at HFR
  simp only [Bool.not_false, Bool.true_and] at HFR
  have HB2 := hide (show decide ((n : Int) + 1 < 18446744073709543423) = false by rw [decide_eq_false_iff_not]; omega)
  clear ht hag ht3 hag3 hm3 f1 f2 f3 ho hn hl
  generalize sealT n ⟨#[97, 49]⟩ [] = x10 at *
  clear hm0 hm1 h0 h1 h2 h3 hn2
  go_enter Tryd.func3, Tryd.ntmps3
  go_upto_region 9 with (first
    | (go_at_call 6; refine HAW.out.mono ?_; rintro e w0 ⟨rfl, ho⟩; have HO := hide ho; clear ho HAW)
    | (go_at_call 7; (with_reducible refine (HNP.out _).mono ?_); rintro e w1 ⟨g, c, rfl, hg, hc, hgc, hp, _, ho⟩; have HP := hide hp; have HGL := hide (show g < w1.heap.size from Blk.lt hp); have HGG := hide (show w.heap.size ≤ g from Nat.le_trans HO.out.size hg); replace HO := hide (HO.out.trans ho); clear hg hc hgc hp ho)
    | (go_at_call 7; (with_reducible refine (HNQ.out _).mono ?_); rintro e w2 ⟨q, d, rfl, hq, hd, hqd, hp, hz, ho⟩; have HQ := hide hp; have HD := hide (win_zero hz); have HQL := hide (show w1.heap.size ≤ q ∧ w1.heap.size ≤ d ∧ w.heap.size ≤ w1.heap.size from ⟨hq, hd, HO.out.size⟩); have HQS := hide (show q < w2.heap.size ∧ d < w2.heap.size from ⟨Blk.lt hp, hz.lt⟩); replace HP := hide (PairIs.only HP.out ho (by simp)); replace HO := hide (HO.out.trans ho); clear hq hd hqd hp hz ho)
    | (go_at_call 8; refine (pskip_any _ g c ⟨#[97, 49]⟩ ⟨#[97, 50]⟩ 1 2 true made 0 n HP.out).mono ?_; rw [if_neg (Nat.not_lt_zero n), if_neg (Nat.not_lt_zero n)]; rintro e w3 ⟨rfl, hp, ho⟩; replace HP := hide hp; replace HQ := hide (PairIs.only HQ.out ho (by have := HGL.out; have := HQL.out; simp; omega)); replace HD := hide (HD.out.only ho (by have := HGL.out; have := HQL.out; simp; omega)); replace HO := hide (((HO.out.mono (S' := [g]) (by simp)).trans ho).mono (S' := []) (by intro x hx; right; simp at hx; have := HGG.out; omega)); have HSZ := hide ho.size; clear hp ho)
    | (go_at_call 9; refine (HSL.out _ g c HP.out (HT.out.only HO.out (by simp))).mono ?_; rintro e w4 ⟨rfl, hp, ho⟩; replace HP := hide hp; replace HQ := hide (PairIs.only HQ.out ho (by have := HGL.out; have := HQL.out; simp; omega)); replace HD := hide (HD.out.only ho (by have := HGL.out; have := HQL.out; simp; omega)); replace HO := hide (((HO.out.mono (S' := [g]) (by simp)).trans ho).mono (S' := []) (by intro x hx; right; simp at hx; have := HGG.out; omega)); replace HSZ := hide (Nat.le_trans HSZ.out ho.size); clear hp ho))
  have HMB := hide (Blk.new w4 33 #[.int .i64 4, .int .u32 0, .int .u32 2, .int .u64 (n : Nat), .string ⟨#[]⟩, .string ⟨#[]⟩, .string ⟨#[]⟩, .string ⟨#[]⟩, .string ⟨#[]⟩, .string ⟨#[]⟩, .string x10, .string ⟨#[]⟩, .string ⟨#[]⟩])
  replace HO := hide (HO.out.alloc (.cells #[.int .i64 4, .int .u32 0, .int .u32 2, .int .u64 (n : Nat), .string ⟨#[]⟩, .string ⟨#[]⟩, .string ⟨#[]⟩, .string ⟨#[]⟩, .string ⟨#[]⟩, .string ⟨#[]⟩, .string x10, .string ⟨#[]⟩, .string ⟨#[]⟩] 33))
  replace HP := hide (PairIs.only HP.out ((Only.refl [] _).alloc (.cells #[.int .i64 4, .int .u32 0, .int .u32 2, .int .u64 (n : Nat), .string ⟨#[]⟩, .string ⟨#[]⟩, .string ⟨#[]⟩, .string ⟨#[]⟩, .string ⟨#[]⟩, .string ⟨#[]⟩, .string x10, .string ⟨#[]⟩, .string ⟨#[]⟩] 33)) (by simp))
  replace HQ := hide (PairIs.only HQ.out ((Only.refl [] _).alloc (.cells #[.int .i64 4, .int .u32 0, .int .u32 2, .int .u64 (n : Nat), .string ⟨#[]⟩, .string ⟨#[]⟩, .string ⟨#[]⟩, .string ⟨#[]⟩, .string ⟨#[]⟩, .string ⟨#[]⟩, .string x10, .string ⟨#[]⟩, .string ⟨#[]⟩] 33)) (by simp))
  replace HD := hide (HD.out.only ((Only.refl [] _).alloc (.cells #[.int .i64 4, .int .u32 0, .int .u32 2, .int .u64 (n : Nat), .string ⟨#[]⟩, .string ⟨#[]⟩, .string ⟨#[]⟩, .string ⟨#[]⟩, .string ⟨#[]⟩, .string ⟨#[]⟩, .string x10, .string ⟨#[]⟩, .string ⟨#[]⟩] 33)) (by simp))
  have HDM := hide (show w4.heap.size ≠ d by have := HSZ.out; have := HQS.out; omega)
  generalize (w4.alloc (.cells #[.int .i64 4, .int .u32 0, .int .u32 2, .int .u64 (n : Nat), .string ⟨#[]⟩, .string ⟨#[]⟩, .string ⟨#[]⟩, .string ⟨#[]⟩, .string ⟨#[]⟩, .string ⟨#[]⟩, .string x10, .string ⟨#[]⟩, .string ⟨#[]⟩] 33)) = w5 at *
  have m0 := HMB.out.cell 0; have m1 := HMB.out.cell 1; have m2 := HMB.out.cell 2; have m3 := HMB.out.cell 3; have m4 := HMB.out.cell 4; have m5 := HMB.out.cell 5; have m6 := HMB.out.cell 6; have m7 := HMB.out.cell 7; have m8 := HMB.out.cell 8; have m9 := HMB.out.cell 9; have m10 := HMB.out.cell 10; have m11 := HMB.out.cell 11; have m12 := HMB.out.cell 12; simp at m0 m1 m2 m3 m4 m5 m6 m7 m8 m9 m10 m11 m12
  have b0 := HB0.out
  have b1 := HB1.out
  have b2 := HB2.out
  go_wp2_with (first
    | (go_at_call 10; refine (HFR.out _ g c HP.out).mono ?_; rintro e wz ⟨rfl, rfl⟩)
    | (go_at_call 11; refine (HSN.out _ g c HP.out).mono ?_; rintro e wz ⟨rfl, rfl⟩)
    | (go_at_call 12; (with_reducible refine (HO1.out _ q d HQ.out HD.out).mono ?_); rintro e w6 ⟨⟨vw6, rfl⟩, hq, hd, ho⟩; replace HQ := hide hq; replace HD := hide hd; replace HMB := hide (HMB.out.only ho (by have := HDM.out; simp; omega)); replace HP := hide (PairIs.only HP.out ho (by have := HGL.out; have := HQL.out; simp; omega)); replace HO := hide (((HO.out.mono (S' := [d]) (by simp)).trans ho).mono (S' := []) (by intro x hx; right; simp at hx; have := HQL.out; omega)); clear hq hd ho; clear m0 m1 m2 m3 m4 m5 m6 m7 m8 m9 m10 m11 m12; have m0 := HMB.out.cell 0; have m1 := HMB.out.cell 1; have m2 := HMB.out.cell 2; have m3 := HMB.out.cell 3; have m4 := HMB.out.cell 4; have m5 := HMB.out.cell 5; have m6 := HMB.out.cell 6; have m7 := HMB.out.cell 7; have m8 := HMB.out.cell 8; have m9 := HMB.out.cell 9; have m10 := HMB.out.cell 10; have m11 := HMB.out.cell 11; have m12 := HMB.out.cell 12; simp at m0 m1 m2 m3 m4 m5 m6 m7 m8 m9 m10 m11 m12)
    | (go_at_call 12; (with_reducible refine (HO2.out _ q d HQ.out HD.out).mono ?_); rintro e w7 ⟨⟨vw7, rfl⟩, hq, hd, ho⟩; replace HQ := hide hq; replace HD := hide hd; replace HMB := hide (HMB.out.only ho (by have := HDM.out; simp; omega)); replace HP := hide (PairIs.only HP.out ho (by have := HGL.out; have := HQL.out; simp; omega)); replace HO := hide (((HO.out.mono (S' := [d]) (by simp)).trans ho).mono (S' := []) (by intro x hx; right; simp at hx; have := HQL.out; omega)); clear hq hd ho; clear m0 m1 m2 m3 m4 m5 m6 m7 m8 m9 m10 m11 m12; have m0 := HMB.out.cell 0; have m1 := HMB.out.cell 1; have m2 := HMB.out.cell 2; have m3 := HMB.out.cell 3; have m4 := HMB.out.cell 4; have m5 := HMB.out.cell 5; have m6 := HMB.out.cell 6; have m7 := HMB.out.cell 7; have m8 := HMB.out.cell 8; have m9 := HMB.out.cell 9; have m10 := HMB.out.cell 10; have m11 := HMB.out.cell 11; have m12 := HMB.out.cell 12; simp at m0 m1 m2 m3 m4 m5 m6 m7 m8 m9 m10 m11 m12)
    | (go_at_call 12; (with_reducible refine (HO3.out _ q d HQ.out HD.out).mono ?_); rintro e w8 ⟨⟨vw8, rfl⟩, hq, hd, ho⟩; replace HQ := hide hq; replace HD := hide hd; replace HMB := hide (HMB.out.only ho (by have := HDM.out; simp; omega)); replace HP := hide (PairIs.only HP.out ho (by have := HGL.out; have := HQL.out; simp; omega)); replace HO := hide (((HO.out.mono (S' := [d]) (by simp)).trans ho).mono (S' := []) (by intro x hx; right; simp at hx; have := HQL.out; omega)); clear hq hd ho; clear m0 m1 m2 m3 m4 m5 m6 m7 m8 m9 m10 m11 m12; have m0 := HMB.out.cell 0; have m1 := HMB.out.cell 1; have m2 := HMB.out.cell 2; have m3 := HMB.out.cell 3; have m4 := HMB.out.cell 4; have m5 := HMB.out.cell 5; have m6 := HMB.out.cell 6; have m7 := HMB.out.cell 7; have m8 := HMB.out.cell 8; have m9 := HMB.out.cell 9; have m10 := HMB.out.cell 10; have m11 := HMB.out.cell 11; have m12 := HMB.out.cell 12; simp at m0 m1 m2 m3 m4 m5 m6 m7 m8 m9 m10 m11 m12))
  go_ret
  exact retb rfl HO.out
theorem pairLimits_law (made : Int) (_a : (Lit.int .i64 made).wf = true) (age : Int) (_b : (Lit.int .i64 age).wf = true) (n : Int) (hn : (Lit.int .u64 n).wf = true) {w : World} (htab : Tab w) :
    Calls Tryd.prog 3 #[.int .i64 made, .int .i64 age, .int .u64 n] w fun e w' => e = .returned (.bool true) ∧ Only [] w w' := by
  obtain ⟨m, rfl, hm⟩ := u64_nat hn
  by_cases h : made < 0 ∨ 1000000000000 < made ∨ age < 0 ∨ 1000000 < age
  · exact pl_out w made age m htab h
  · have h0 : 0 ≤ made := by omega
    have h1 : made ≤ 1000000000000 := by omega
    have h2 : 0 ≤ age := by omega
    have h3 : age ≤ 1000000 := by omega
    by_cases ho : age < 180000
    · by_cases hx : m < 18446744073709543423
      · by_cases hl : m + 1 < 18446744073709543423
        · exact pl_young w made age m htab hm h0 h1 h2 h3 ho hx hl
        · exact pl_last w made age m htab hm h0 h1 h2 h3 ho hx hl
      · exact pl_many w made age m htab hm h0 h1 h2 h3 ho hx
    · exact pl_aged w made age m htab hm h0 h1 h2 h3 ho
end
end Go.Proofs.YtfipdjlalfpbnaaDoor

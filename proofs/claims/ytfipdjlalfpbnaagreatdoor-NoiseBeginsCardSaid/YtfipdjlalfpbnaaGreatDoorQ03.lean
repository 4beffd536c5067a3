/-
  Walks and plain words (texts Nq0, Nl4). No condition beyond those that each theorem states.
-/
import Derived.Test.YtfipdjlalfpbnaaGreatDoorP29
import Derived.Test.YtfipdjlalfpbnaaGreatDoorP35
import Derived.Test.YtfipdjlalfpbnaaGreatDoorP39
import Derived.Test.YtfipdjlalfpbnaaGreatDoorQ01
import Derived.Test.YtfipdjlalfpbnaaGreatDoorQ02
namespace Go.Proofs.YtfipdjlalfpbnaaGreatDoor
section
open Go.RowKit Go.Deep

theorem readR_cells (w : World) (s : ByteArray) (hs : s.size ≤ maxLen) : Calls Tryz.prog 39 #[.string s] w fun e w' => ∃ A1 n1 c1 A2 n2 c2, e = .returned (.agg #[.int .i64 (whatV s).1, .int .u64 ((whatV s).2.1 : Nat), .slice A1 n1 c1, .slice A2 n2 c2]) ∧ Only [] w w' :=
  (readR_what w s hs).mono fun e w' h => by
    obtain ⟨bv, pv, h1, h2, h3, h4⟩ := h
    obtain ⟨A, cap, rfl, _, _⟩ := h3.formb
    obtain ⟨A2, cap2, rfl, _, _⟩ := h4.form
    exact ⟨A, _, cap, A2, _, cap2, h1, h2⟩
end
section
open Go.RowKit Go.Deep

theorem readR_pub (w : World) (s r : ByteArray) (hs : s.size ≤ maxLen) (hp : parseV s = some (5, 0, [], [r])) : Calls Tryz.prog 39 #[.string s] w fun e w' => ∃ A1 n1 c1 g o c2, e = .returned (.agg #[.int .i64 5, .int .u64 0, .slice A1 n1 c1, .slice (some ⟨g, o, none⟩) 1 c2]) ∧ Only [] w w' ∧ ∀ W, Only [] w' W → W.cell? ⟨g, o, none⟩ = some (.string r) :=
  (readR_what w s hs).mono fun e w' h => by
    obtain ⟨bv, pv, h1, h2, h3, h4⟩ := h
    unfold whatV at h1 h3 h4
    rw [hp] at h1 h3 h4
    simp only [Option.getD_some] at h1 h3 h4
    obtain ⟨A, cap, rfl, _, _⟩ := h3.formb
    obtain ⟨A2, cap2, rfl, _, _⟩ := h4.form
    obtain ⟨g, o, rfl, _, hc⟩ := rd_strs h4 (by simp)
    refine ⟨A, _, cap, g, o, cap2, h1, h2, fun W hW => ?_⟩
    obtain ⟨g', o', ha, _, hc'⟩ := rd_strs (h4.only hW (by simp)) (by simp)
    injection ha with ha
    injection ha with e1 e2
    subst e1 e2
    exact hc' 0 (by simp)
set_option maxRecDepth 100000 in
set_option maxHeartbeats 12800000 in
theorem nb_big (w : World) (s e pb o : ByteArray) (n sd : Nat) (hs : s.size ≤ maxLen) (he : e.size ≤ maxLen) (hpz : pb.size ≤ maxLen) (ho : o.size ≤ maxLen) (_hn : n < 18446744073709551616) (_hsd : sd < 4294967296) (htab : Tab w) (hb : bigB [s, e, pb, o] = true) : Calls Tryz.prog 6 #[.string s, .string e, .string pb, .string o, .int .u64 n, .int .u32 sd] w fun e' w' => e' = .returned (.bool true) ∧ Only [] w w' := by
  have KAW := hide (fun W h => awake10 W h)
  have KBG := hide (fun W G hG => big10_new4 W G hG s e pb o hs he hpz ho)
  unfold RetB at KBG
  rw [hb] at KBG
  have HT := hide htab
  clear hs he hpz ho _hn _hsd htab hb
  go_enter Tryz.func6, Tryz.ntmps6
  go_wp2_with (first
    | (go_at_call 36; refine (KAW.out _ HT.out).mono ?_; rintro e2 wa ⟨rfl, ho⟩; have HO := hide ho; clear ho KAW)
    | (go_at_call 37; (with_reducible refine (KBG.out _ _ rfl).mono ?_); rintro e2 wg ⟨rfl, ho⟩; replace HO := htr HO ho; clear ho KBG))
  go_ret
  exact ⟨rfl, HO.out⟩
set_option maxRecDepth 100000 in
set_option maxHeartbeats 12800000 in
theorem nb_no1 (w : World) (s e pb o : ByteArray) (n sd : Nat) (hs : s.size ≤ maxLen) (he : e.size ≤ maxLen) (hpz : pb.size ≤ maxLen) (ho : o.size ≤ maxLen) (hn : n < 18446744073709551616) (_hsd : sd < 4294967296) (htab : Tab w) (hb : bigB [s, e, pb, o] = false) (h1 : isV s = false) : Calls Tryz.prog 6 #[.string s, .string e, .string pb, .string o, .int .u64 n, .int .u32 sd] w fun e' w' => e' = .returned (.bool true) ∧ Only [] w w' := by
  have KAW := hide (fun W h => awake10 W h)
  have KBG := hide (fun W G hG => big10_new4 W G hG s e pb o hs he hpz ho)
  unfold RetB at KBG
  rw [hb] at KBG
  have KI1 := hide (fun W => isR_all W s hs)
  have KI2 := hide (fun W => isR_all W e he)
  unfold RetB at KI1 KI2
  have KRD := hide (fun W => readR_cells W pb hpz)
  have hze := fun W => msg_same (Mg.mk 0 0 0 0 ⟨#[]⟩ ⟨#[]⟩ ⟨#[]⟩ ⟨#[]⟩ ⟨#[]⟩ ⟨#[]⟩ ⟨#[]⟩ ⟨#[]⟩ ⟨#[]⟩) W
  have hze : ∀ W, (binOp .eql 25 (.agg #[.int .i64 0, .int .u32 0, .int .u32 0, .int .u64 0, .string ⟨#[]⟩, .string ⟨#[]⟩, .string ⟨#[]⟩, .string ⟨#[]⟩, .string ⟨#[]⟩, .string ⟨#[]⟩, .string ⟨#[]⟩, .string ⟨#[]⟩, .string ⟨#[]⟩]) (.agg #[.int .i64 0, .int .u32 0, .int .u32 0, .int .u64 0, .string ⟨#[]⟩, .string ⟨#[]⟩, .string ⟨#[]⟩, .string ⟨#[]⟩, .string ⟨#[]⟩, .string ⟨#[]⟩, .string ⟨#[]⟩, .string ⟨#[]⟩, .string ⟨#[]⟩])).run Tryz.prog W = .ok (.bool true) W := hze
  have hzs : ∀ W, (binOp .eql 72 (.agg #[.int .u32 0, .string ⟨#[]⟩, .string ⟨#[]⟩, .string ⟨#[]⟩]) (.agg #[.int .u32 0, .string ⟨#[]⟩, .string ⟨#[]⟩, .string ⟨#[]⟩])).run Tryz.prog W = .ok (.bool true) W := fun W => start_same 0 ⟨#[]⟩ ⟨#[]⟩ ⟨#[]⟩ W
  have hg : (termsB [s, e] && pubsB [pb]) = false := by
    rw [terms_all, pubs_one]
    simp only [List.all_cons, List.all_nil, Bool.and_true]
    rw [h1]
    rfl
  have KB : Hid (∀ W, Tab W → Calls Tryz.prog 38 #[.string s, .string e, .string pb, .int .u64 n, .int .u32 sd] W (BeginPost 3 #[.int .i64 0, .int .u32 0, .int .u32 0, .int .u64 0, .string ⟨#[]⟩, .string ⟨#[]⟩, .string ⟨#[]⟩, .string ⟨#[]⟩, .string ⟨#[]⟩, .string ⟨#[]⟩, .string ⟨#[]⟩, .string ⟨#[]⟩, .string ⟨#[]⟩] #[.int .u32 0, .string ⟨#[]⟩, .string ⟨#[]⟩, .string ⟨#[]⟩] W)) := hide (fun W ht => by
    have h := Begin_any W s e pb n sd hs he hpz hn ht
    rw [if_pos hg] at h
    exact h)
  unfold BeginPost at KB
  have HT := hide htab
  unfold isV at h1
  rw [h1] at KI1
  clear h1 KI2
  clear hs he hpz ho hn _hsd htab hb hg
  generalize (whatV pb).1 = kq at *
  generalize (whatV pb).2.1 = nq at *
  go_enter Tryz.func6, Tryz.ntmps6
  go_upto_region 6 with (first
    | (go_at_call 36; refine (KAW.out _ HT.out).mono ?_; rintro e2 wa ⟨rfl, ho⟩; have HO := hide ho; clear ho KAW)
    | (go_at_call 37; (with_reducible refine (KBG.out _ _ rfl).mono ?_); rintro e2 wg ⟨rfl, ho⟩; replace HO := htr HO ho; clear ho KBG)
    | (go_at_call 38; refine (KB.out _ (HT.out.only HO.out (by simp))).mono ?_; rintro e2 wb ⟨rfl, ho⟩; replace HO := htr HO ho; clear ho KB))
  have HM := hide (Blk.new wb 25 #[.int .i64 0, .int .u32 0, .int .u32 0, .int .u64 0, .string ⟨#[]⟩, .string ⟨#[]⟩, .string ⟨#[]⟩, .string ⟨#[]⟩, .string ⟨#[]⟩, .string ⟨#[]⟩, .string ⟨#[]⟩, .string ⟨#[]⟩, .string ⟨#[]⟩])
  have HS := hide (Blk.new (wb.alloc (.cells #[.int .i64 0, .int .u32 0, .int .u32 0, .int .u64 0, .string ⟨#[]⟩, .string ⟨#[]⟩, .string ⟨#[]⟩, .string ⟨#[]⟩, .string ⟨#[]⟩, .string ⟨#[]⟩, .string ⟨#[]⟩, .string ⟨#[]⟩, .string ⟨#[]⟩] 25)) 72 #[.int .u32 0, .string ⟨#[]⟩, .string ⟨#[]⟩, .string ⟨#[]⟩])
  replace HO := hide (HO.out.alloc (.cells #[.int .i64 0, .int .u32 0, .int .u32 0, .int .u64 0, .string ⟨#[]⟩, .string ⟨#[]⟩, .string ⟨#[]⟩, .string ⟨#[]⟩, .string ⟨#[]⟩, .string ⟨#[]⟩, .string ⟨#[]⟩, .string ⟨#[]⟩, .string ⟨#[]⟩] 25))
  replace HM := hide (HM.out.alloc (.cells #[.int .u32 0, .string ⟨#[]⟩, .string ⟨#[]⟩, .string ⟨#[]⟩] 72))
  replace HO := hide (HO.out.alloc (.cells #[.int .u32 0, .string ⟨#[]⟩, .string ⟨#[]⟩, .string ⟨#[]⟩] 72))
  rw [World.size_alloc] at HS
  generalize ((wb.alloc (.cells #[.int .i64 0, .int .u32 0, .int .u32 0, .int .u64 0, .string ⟨#[]⟩, .string ⟨#[]⟩, .string ⟨#[]⟩, .string ⟨#[]⟩, .string ⟨#[]⟩, .string ⟨#[]⟩, .string ⟨#[]⟩, .string ⟨#[]⟩, .string ⟨#[]⟩] 25)).alloc (.cells #[.int .u32 0, .string ⟨#[]⟩, .string ⟨#[]⟩, .string ⟨#[]⟩] 72)) = w2 at *
  obtain ⟨gm, hgm⟩ : ∃ g, g = wb.heap.size := ⟨_, rfl⟩
  rw [← hgm] at HM HS ⊢
  clear hgm
  go_upto_region 7 with (go_at_call 39; refine (KRD.out _).mono ?_; rintro e2 wr ⟨A1, n1, c1, A2, n2, c2, rfl, ho⟩; replace HM := hon HM ho; replace HS := hon HS ho; replace HO := htr HO ho; clear ho KRD)
  have HN := hide (Blk.new wr 77 #[.int .i64 kq, .int .u64 (nq : Nat), .slice A1 n1 c1, .slice A2 n2 c2])
  replace HM := hide (HM.out.alloc (.cells #[.int .i64 kq, .int .u64 (nq : Nat), .slice A1 n1 c1, .slice A2 n2 c2] 77))
  replace HS := hide (HS.out.alloc (.cells #[.int .i64 kq, .int .u64 (nq : Nat), .slice A1 n1 c1, .slice A2 n2 c2] 77))
  replace HO := hide (HO.out.alloc (.cells #[.int .i64 kq, .int .u64 (nq : Nat), .slice A1 n1 c1, .slice A2 n2 c2] 77))
  generalize (wr.alloc (.cells #[.int .i64 kq, .int .u64 (nq : Nat), .slice A1 n1 c1, .slice A2 n2 c2] 77)) = w3 at *
  obtain ⟨gn, hgn⟩ : ∃ g, g = wr.heap.size := ⟨_, rfl⟩
  rw [← hgn] at HN ⊢
  clear hgn
  obtain ⟨a0, a1, a2, a3, a4, a5, a6, a7, a8, a9, a10, a11, a12⟩ := cells13 HM.out
  obtain ⟨b0, b1, b2, b3⟩ := cells4 HS.out
  obtain ⟨n0, -⟩ := cells4 HN.out
  clear HT
  go_wp2_with (first
    | (go_at_call 18; (with_reducible refine (KI1.out _).mono ?_); rintro e2 wi ⟨rfl, ho⟩; replace HM := hon HM ho; replace HS := hon HS ho; replace HN := hon HN ho; replace HO := htr HO ho; clear ho; clear a0 a1 a2 a3 a4 a5 a6 a7 a8 a9 a10 a11 a12 b0 b1 b2 b3 n0; obtain ⟨a0, a1, a2, a3, a4, a5, a6, a7, a8, a9, a10, a11, a12⟩ := cells13 HM.out; obtain ⟨b0, b1, b2, b3⟩ := cells4 HS.out; obtain ⟨n0, -⟩ := cells4 HN.out))
  go_ret
  exact ⟨rfl, HO.out⟩
set_option maxRecDepth 100000 in
set_option maxHeartbeats 12800000 in
theorem nb_no2 (w : World) (s e pb o : ByteArray) (n sd : Nat) (hs : s.size ≤ maxLen) (he : e.size ≤ maxLen) (hpz : pb.size ≤ maxLen) (ho : o.size ≤ maxLen) (hn : n < 18446744073709551616) (_hsd : sd < 4294967296) (htab : Tab w) (hb : bigB [s, e, pb, o] = false) (h1 : isV s = true) (h2 : isV e = false) : Calls Tryz.prog 6 #[.string s, .string e, .string pb, .string o, .int .u64 n, .int .u32 sd] w fun e' w' => e' = .returned (.bool true) ∧ Only [] w w' := by
  have KAW := hide (fun W h => awake10 W h)
  have KBG := hide (fun W G hG => big10_new4 W G hG s e pb o hs he hpz ho)
  unfold RetB at KBG
  rw [hb] at KBG
  have KI1 := hide (fun W => isR_all W s hs)
  have KI2 := hide (fun W => isR_all W e he)
  unfold RetB at KI1 KI2
  have KRD := hide (fun W => readR_cells W pb hpz)
  have hze := fun W => msg_same (Mg.mk 0 0 0 0 ⟨#[]⟩ ⟨#[]⟩ ⟨#[]⟩ ⟨#[]⟩ ⟨#[]⟩ ⟨#[]⟩ ⟨#[]⟩ ⟨#[]⟩ ⟨#[]⟩) W
  have hze : ∀ W, (binOp .eql 25 (.agg #[.int .i64 0, .int .u32 0, .int .u32 0, .int .u64 0, .string ⟨#[]⟩, .string ⟨#[]⟩, .string ⟨#[]⟩, .string ⟨#[]⟩, .string ⟨#[]⟩, .string ⟨#[]⟩, .string ⟨#[]⟩, .string ⟨#[]⟩, .string ⟨#[]⟩]) (.agg #[.int .i64 0, .int .u32 0, .int .u32 0, .int .u64 0, .string ⟨#[]⟩, .string ⟨#[]⟩, .string ⟨#[]⟩, .string ⟨#[]⟩, .string ⟨#[]⟩, .string ⟨#[]⟩, .string ⟨#[]⟩, .string ⟨#[]⟩, .string ⟨#[]⟩])).run Tryz.prog W = .ok (.bool true) W := hze
  have hzs : ∀ W, (binOp .eql 72 (.agg #[.int .u32 0, .string ⟨#[]⟩, .string ⟨#[]⟩, .string ⟨#[]⟩]) (.agg #[.int .u32 0, .string ⟨#[]⟩, .string ⟨#[]⟩, .string ⟨#[]⟩])).run Tryz.prog W = .ok (.bool true) W := fun W => start_same 0 ⟨#[]⟩ ⟨#[]⟩ ⟨#[]⟩ W
  have hg : (termsB [s, e] && pubsB [pb]) = false := by
    rw [terms_all, pubs_one]
    simp only [List.all_cons, List.all_nil, Bool.and_true]
    rw [h1, h2]
    rfl
  have KB : Hid (∀ W, Tab W → Calls Tryz.prog 38 #[.string s, .string e, .string pb, .int .u64 n, .int .u32 sd] W (BeginPost 3 #[.int .i64 0, .int .u32 0, .int .u32 0, .int .u64 0, .string ⟨#[]⟩, .string ⟨#[]⟩, .string ⟨#[]⟩, .string ⟨#[]⟩, .string ⟨#[]⟩, .string ⟨#[]⟩, .string ⟨#[]⟩, .string ⟨#[]⟩, .string ⟨#[]⟩] #[.int .u32 0, .string ⟨#[]⟩, .string ⟨#[]⟩, .string ⟨#[]⟩] W)) := hide (fun W ht => by
    have h := Begin_any W s e pb n sd hs he hpz hn ht
    rw [if_pos hg] at h
    exact h)
  unfold BeginPost at KB
  have HT := hide htab
  unfold isV at h1 h2
  rw [h1] at KI1
  rw [h2] at KI2
  clear h1 h2
  clear hs he hpz ho hn _hsd htab hb hg
  generalize (whatV pb).1 = kq at *
  generalize (whatV pb).2.1 = nq at *
  go_enter Tryz.func6, Tryz.ntmps6
  go_upto_region 6 with (first
    | (go_at_call 36; refine (KAW.out _ HT.out).mono ?_; rintro e2 wa ⟨rfl, ho⟩; have HO := hide ho; clear ho KAW)
    | (go_at_call 37; (with_reducible refine (KBG.out _ _ rfl).mono ?_); rintro e2 wg ⟨rfl, ho⟩; replace HO := htr HO ho; clear ho KBG)
    | (go_at_call 38; refine (KB.out _ (HT.out.only HO.out (by simp))).mono ?_; rintro e2 wb ⟨rfl, ho⟩; replace HO := htr HO ho; clear ho KB))
  have HM := hide (Blk.new wb 25 #[.int .i64 0, .int .u32 0, .int .u32 0, .int .u64 0, .string ⟨#[]⟩, .string ⟨#[]⟩, .string ⟨#[]⟩, .string ⟨#[]⟩, .string ⟨#[]⟩, .string ⟨#[]⟩, .string ⟨#[]⟩, .string ⟨#[]⟩, .string ⟨#[]⟩])
  have HS := hide (Blk.new (wb.alloc (.cells #[.int .i64 0, .int .u32 0, .int .u32 0, .int .u64 0, .string ⟨#[]⟩, .string ⟨#[]⟩, .string ⟨#[]⟩, .string ⟨#[]⟩, .string ⟨#[]⟩, .string ⟨#[]⟩, .string ⟨#[]⟩, .string ⟨#[]⟩, .string ⟨#[]⟩] 25)) 72 #[.int .u32 0, .string ⟨#[]⟩, .string ⟨#[]⟩, .string ⟨#[]⟩])
  replace HO := hide (HO.out.alloc (.cells #[.int .i64 0, .int .u32 0, .int .u32 0, .int .u64 0, .string ⟨#[]⟩, .string ⟨#[]⟩, .string ⟨#[]⟩, .string ⟨#[]⟩, .string ⟨#[]⟩, .string ⟨#[]⟩, .string ⟨#[]⟩, .string ⟨#[]⟩, .string ⟨#[]⟩] 25))
  replace HM := hide (HM.out.alloc (.cells #[.int .u32 0, .string ⟨#[]⟩, .string ⟨#[]⟩, .string ⟨#[]⟩] 72))
  replace HO := hide (HO.out.alloc (.cells #[.int .u32 0, .string ⟨#[]⟩, .string ⟨#[]⟩, .string ⟨#[]⟩] 72))
  rw [World.size_alloc] at HS
  generalize ((wb.alloc (.cells #[.int .i64 0, .int .u32 0, .int .u32 0, .int .u64 0, .string ⟨#[]⟩, .string ⟨#[]⟩, .string ⟨#[]⟩, .string ⟨#[]⟩, .string ⟨#[]⟩, .string ⟨#[]⟩, .string ⟨#[]⟩, .string ⟨#[]⟩, .string ⟨#[]⟩] 25)).alloc (.cells #[.int .u32 0, .string ⟨#[]⟩, .string ⟨#[]⟩, .string ⟨#[]⟩] 72)) = w2 at *
  obtain ⟨gm, hgm⟩ : ∃ g, g = wb.heap.size := ⟨_, rfl⟩
  rw [← hgm] at HM HS ⊢
  clear hgm
  go_upto_region 7 with (go_at_call 39; refine (KRD.out _).mono ?_; rintro e2 wr ⟨A1, n1, c1, A2, n2, c2, rfl, ho⟩; replace HM := hon HM ho; replace HS := hon HS ho; replace HO := htr HO ho; clear ho KRD)
  have HN := hide (Blk.new wr 77 #[.int .i64 kq, .int .u64 (nq : Nat), .slice A1 n1 c1, .slice A2 n2 c2])
  replace HM := hide (HM.out.alloc (.cells #[.int .i64 kq, .int .u64 (nq : Nat), .slice A1 n1 c1, .slice A2 n2 c2] 77))
  replace HS := hide (HS.out.alloc (.cells #[.int .i64 kq, .int .u64 (nq : Nat), .slice A1 n1 c1, .slice A2 n2 c2] 77))
  replace HO := hide (HO.out.alloc (.cells #[.int .i64 kq, .int .u64 (nq : Nat), .slice A1 n1 c1, .slice A2 n2 c2] 77))
  generalize (wr.alloc (.cells #[.int .i64 kq, .int .u64 (nq : Nat), .slice A1 n1 c1, .slice A2 n2 c2] 77)) = w3 at *
  obtain ⟨gn, hgn⟩ : ∃ g, g = wr.heap.size := ⟨_, rfl⟩
  rw [← hgn] at HN ⊢
  clear hgn
  obtain ⟨a0, a1, a2, a3, a4, a5, a6, a7, a8, a9, a10, a11, a12⟩ := cells13 HM.out
  obtain ⟨b0, b1, b2, b3⟩ := cells4 HS.out
  obtain ⟨n0, -⟩ := cells4 HN.out
  clear HT
  go_wp2_with (first
    | (go_at_call 18; (with_reducible refine (KI1.out _).mono ?_); rintro e2 wi ⟨rfl, ho⟩; replace HM := hon HM ho; replace HS := hon HS ho; replace HN := hon HN ho; replace HO := htr HO ho; clear ho; clear a0 a1 a2 a3 a4 a5 a6 a7 a8 a9 a10 a11 a12 b0 b1 b2 b3 n0; obtain ⟨a0, a1, a2, a3, a4, a5, a6, a7, a8, a9, a10, a11, a12⟩ := cells13 HM.out; obtain ⟨b0, b1, b2, b3⟩ := cells4 HS.out; obtain ⟨n0, -⟩ := cells4 HN.out)
    | (go_at_call 18; (with_reducible refine (KI2.out _).mono ?_); rintro e2 wi ⟨rfl, ho⟩; replace HM := hon HM ho; replace HS := hon HS ho; replace HN := hon HN ho; replace HO := htr HO ho; clear ho; clear a0 a1 a2 a3 a4 a5 a6 a7 a8 a9 a10 a11 a12 b0 b1 b2 b3 n0; obtain ⟨a0, a1, a2, a3, a4, a5, a6, a7, a8, a9, a10, a11, a12⟩ := cells13 HM.out; obtain ⟨b0, b1, b2, b3⟩ := cells4 HS.out; obtain ⟨n0, -⟩ := cells4 HN.out))
  go_ret
  exact ⟨rfl, HO.out⟩
set_option maxRecDepth 100000 in
set_option maxHeartbeats 12800000 in
theorem nb_no3 (w : World) (s e pb o : ByteArray) (n sd : Nat) (hs : s.size ≤ maxLen) (he : e.size ≤ maxLen) (hpz : pb.size ≤ maxLen) (ho : o.size ≤ maxLen) (hn : n < 18446744073709551616) (_hsd : sd < 4294967296) (htab : Tab w) (hb : bigB [s, e, pb, o] = false) (h1 : isV s = true) (h2 : isV e = true) (h3 : kindT pb ≠ 5) : Calls Tryz.prog 6 #[.string s, .string e, .string pb, .string o, .int .u64 n, .int .u32 sd] w fun e' w' => e' = .returned (.bool true) ∧ Only [] w w' := by
  have KAW := hide (fun W h => awake10 W h)
  have KBG := hide (fun W G hG => big10_new4 W G hG s e pb o hs he hpz ho)
  unfold RetB at KBG
  rw [hb] at KBG
  have KI1 := hide (fun W => isR_all W s hs)
  have KI2 := hide (fun W => isR_all W e he)
  unfold RetB at KI1 KI2
  have KRD := hide (fun W => readR_cells W pb hpz)
  have hze := fun W => msg_same (Mg.mk 0 0 0 0 ⟨#[]⟩ ⟨#[]⟩ ⟨#[]⟩ ⟨#[]⟩ ⟨#[]⟩ ⟨#[]⟩ ⟨#[]⟩ ⟨#[]⟩ ⟨#[]⟩) W
  have hze : ∀ W, (binOp .eql 25 (.agg #[.int .i64 0, .int .u32 0, .int .u32 0, .int .u64 0, .string ⟨#[]⟩, .string ⟨#[]⟩, .string ⟨#[]⟩, .string ⟨#[]⟩, .string ⟨#[]⟩, .string ⟨#[]⟩, .string ⟨#[]⟩, .string ⟨#[]⟩, .string ⟨#[]⟩]) (.agg #[.int .i64 0, .int .u32 0, .int .u32 0, .int .u64 0, .string ⟨#[]⟩, .string ⟨#[]⟩, .string ⟨#[]⟩, .string ⟨#[]⟩, .string ⟨#[]⟩, .string ⟨#[]⟩, .string ⟨#[]⟩, .string ⟨#[]⟩, .string ⟨#[]⟩])).run Tryz.prog W = .ok (.bool true) W := hze
  have hzs : ∀ W, (binOp .eql 72 (.agg #[.int .u32 0, .string ⟨#[]⟩, .string ⟨#[]⟩, .string ⟨#[]⟩]) (.agg #[.int .u32 0, .string ⟨#[]⟩, .string ⟨#[]⟩, .string ⟨#[]⟩])).run Tryz.prog W = .ok (.bool true) W := fun W => start_same 0 ⟨#[]⟩ ⟨#[]⟩ ⟨#[]⟩ W
  have hg : (termsB [s, e] && pubsB [pb]) = false := by
    rw [terms_all, pubs_one]
    simp only [List.all_cons, List.all_nil, Bool.and_true]
    rw [h1, h2, decide_eq_false h3]
    rfl
  have KB : Hid (∀ W, Tab W → Calls Tryz.prog 38 #[.string s, .string e, .string pb, .int .u64 n, .int .u32 sd] W (BeginPost 3 #[.int .i64 0, .int .u32 0, .int .u32 0, .int .u64 0, .string ⟨#[]⟩, .string ⟨#[]⟩, .string ⟨#[]⟩, .string ⟨#[]⟩, .string ⟨#[]⟩, .string ⟨#[]⟩, .string ⟨#[]⟩, .string ⟨#[]⟩, .string ⟨#[]⟩] #[.int .u32 0, .string ⟨#[]⟩, .string ⟨#[]⟩, .string ⟨#[]⟩] W)) := hide (fun W ht => by
    have h := Begin_any W s e pb n sd hs he hpz hn ht
    rw [if_pos hg] at h
    exact h)
  unfold BeginPost at KB
  have HT := hide htab
  unfold isV at h1 h2
  rw [h1] at KI1
  rw [h2] at KI2
  rw [what_kind] at h3
  have h3b : ((whatV pb).1 != 5) = true := by rw [bne_iff_ne]; exact h3
  clear h1 h2 h3
  clear hs he hpz ho hn _hsd htab hb hg
  generalize (whatV pb).1 = kq at *
  generalize (whatV pb).2.1 = nq at *
  go_enter Tryz.func6, Tryz.ntmps6
  go_upto_region 6 with (first
    | (go_at_call 36; refine (KAW.out _ HT.out).mono ?_; rintro e2 wa ⟨rfl, ho⟩; have HO := hide ho; clear ho KAW)
    | (go_at_call 37; (with_reducible refine (KBG.out _ _ rfl).mono ?_); rintro e2 wg ⟨rfl, ho⟩; replace HO := htr HO ho; clear ho KBG)
    | (go_at_call 38; refine (KB.out _ (HT.out.only HO.out (by simp))).mono ?_; rintro e2 wb ⟨rfl, ho⟩; replace HO := htr HO ho; clear ho KB))
  have HM := hide (Blk.new wb 25 #[.int .i64 0, .int .u32 0, .int .u32 0, .int .u64 0, .string ⟨#[]⟩, .string ⟨#[]⟩, .string ⟨#[]⟩, .string ⟨#[]⟩, .string ⟨#[]⟩, .string ⟨#[]⟩, .string ⟨#[]⟩, .string ⟨#[]⟩, .string ⟨#[]⟩])
  have HS := hide (Blk.new (wb.alloc (.cells #[.int .i64 0, .int .u32 0, .int .u32 0, .int .u64 0, .string ⟨#[]⟩, .string ⟨#[]⟩, .string ⟨#[]⟩, .string ⟨#[]⟩, .string ⟨#[]⟩, .string ⟨#[]⟩, .string ⟨#[]⟩, .string ⟨#[]⟩, .string ⟨#[]⟩] 25)) 72 #[.int .u32 0, .string ⟨#[]⟩, .string ⟨#[]⟩, .string ⟨#[]⟩])
  replace HO := hide (HO.out.alloc (.cells #[.int .i64 0, .int .u32 0, .int .u32 0, .int .u64 0, .string ⟨#[]⟩, .string ⟨#[]⟩, .string ⟨#[]⟩, .string ⟨#[]⟩, .string ⟨#[]⟩, .string ⟨#[]⟩, .string ⟨#[]⟩, .string ⟨#[]⟩, .string ⟨#[]⟩] 25))
  replace HM := hide (HM.out.alloc (.cells #[.int .u32 0, .string ⟨#[]⟩, .string ⟨#[]⟩, .string ⟨#[]⟩] 72))
  replace HO := hide (HO.out.alloc (.cells #[.int .u32 0, .string ⟨#[]⟩, .string ⟨#[]⟩, .string ⟨#[]⟩] 72))
  rw [World.size_alloc] at HS
  generalize ((wb.alloc (.cells #[.int .i64 0, .int .u32 0, .int .u32 0, .int .u64 0, .string ⟨#[]⟩, .string ⟨#[]⟩, .string ⟨#[]⟩, .string ⟨#[]⟩, .string ⟨#[]⟩, .string ⟨#[]⟩, .string ⟨#[]⟩, .string ⟨#[]⟩, .string ⟨#[]⟩] 25)).alloc (.cells #[.int .u32 0, .string ⟨#[]⟩, .string ⟨#[]⟩, .string ⟨#[]⟩] 72)) = w2 at *
  obtain ⟨gm, hgm⟩ : ∃ g, g = wb.heap.size := ⟨_, rfl⟩
  rw [← hgm] at HM HS ⊢
  clear hgm
  go_upto_region 7 with (go_at_call 39; refine (KRD.out _).mono ?_; rintro e2 wr ⟨A1, n1, c1, A2, n2, c2, rfl, ho⟩; replace HM := hon HM ho; replace HS := hon HS ho; replace HO := htr HO ho; clear ho KRD)
  have HN := hide (Blk.new wr 77 #[.int .i64 kq, .int .u64 (nq : Nat), .slice A1 n1 c1, .slice A2 n2 c2])
  replace HM := hide (HM.out.alloc (.cells #[.int .i64 kq, .int .u64 (nq : Nat), .slice A1 n1 c1, .slice A2 n2 c2] 77))
  replace HS := hide (HS.out.alloc (.cells #[.int .i64 kq, .int .u64 (nq : Nat), .slice A1 n1 c1, .slice A2 n2 c2] 77))
  replace HO := hide (HO.out.alloc (.cells #[.int .i64 kq, .int .u64 (nq : Nat), .slice A1 n1 c1, .slice A2 n2 c2] 77))
  generalize (wr.alloc (.cells #[.int .i64 kq, .int .u64 (nq : Nat), .slice A1 n1 c1, .slice A2 n2 c2] 77)) = w3 at *
  obtain ⟨gn, hgn⟩ : ∃ g, g = wr.heap.size := ⟨_, rfl⟩
  rw [← hgn] at HN ⊢
  clear hgn
  obtain ⟨a0, a1, a2, a3, a4, a5, a6, a7, a8, a9, a10, a11, a12⟩ := cells13 HM.out
  obtain ⟨b0, b1, b2, b3⟩ := cells4 HS.out
  obtain ⟨n0, -⟩ := cells4 HN.out
  clear HT
  go_wp2_with (first
    | (go_at_call 18; (with_reducible refine (KI1.out _).mono ?_); rintro e2 wi ⟨rfl, ho⟩; replace HM := hon HM ho; replace HS := hon HS ho; replace HN := hon HN ho; replace HO := htr HO ho; clear ho; clear a0 a1 a2 a3 a4 a5 a6 a7 a8 a9 a10 a11 a12 b0 b1 b2 b3 n0; obtain ⟨a0, a1, a2, a3, a4, a5, a6, a7, a8, a9, a10, a11, a12⟩ := cells13 HM.out; obtain ⟨b0, b1, b2, b3⟩ := cells4 HS.out; obtain ⟨n0, -⟩ := cells4 HN.out)
    | (go_at_call 18; (with_reducible refine (KI2.out _).mono ?_); rintro e2 wi ⟨rfl, ho⟩; replace HM := hon HM ho; replace HS := hon HS ho; replace HN := hon HN ho; replace HO := htr HO ho; clear ho; clear a0 a1 a2 a3 a4 a5 a6 a7 a8 a9 a10 a11 a12 b0 b1 b2 b3 n0; obtain ⟨a0, a1, a2, a3, a4, a5, a6, a7, a8, a9, a10, a11, a12⟩ := cells13 HM.out; obtain ⟨b0, b1, b2, b3⟩ := cells4 HS.out; obtain ⟨n0, -⟩ := cells4 HN.out))
  go_ret
  exact ⟨rfl, HO.out⟩
end
end Go.Proofs.YtfipdjlalfpbnaaGreatDoor

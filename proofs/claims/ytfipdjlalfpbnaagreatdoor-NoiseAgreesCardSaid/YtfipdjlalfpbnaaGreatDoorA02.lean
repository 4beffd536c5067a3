/-
  Walks and plain words (texts Ne1). No condition beyond those that each theorem states.
-/
import Derived.Test.YtfipdjlalfpbnaaGreatDoorP27
import Derived.Test.YtfipdjlalfpbnaaGreatDoorA01
namespace Go.Proofs.YtfipdjlalfpbnaaGreatDoor
section
open Go.RowKit Go.Deep

set_option maxRecDepth 100000 in
set_option maxHeartbeats 12800000 in
theorem ne_f (w : World) (s r e f q o : ByteArray) (sd tu : Nat) (hs : s.size ≤ maxLen) (hr : r.size ≤ maxLen) (he : e.size ≤ maxLen) (hf : f.size ≤ maxLen) (hq : q.size ≤ maxLen) (ho : o.size ≤ maxLen) (hsd : sd < 4294967296) (_htu : tu < 4294967296) (htab : Tab w) (hb : bigB [s, r, e, f, q, o] = false) (ts : Tn 200 s) (tr : Tn 200 r) (te : Tn 200 e) (h1 : isV f = false) : Calls Tryz.prog 8 #[.string s, .string r, .string e, .string f, .string q, .string o, .int .u32 sd, .int .u32 tu] w fun e' w' => e' = .returned (.bool true) ∧ Only [] w w' := by
  obtain ⟨pb, hpb⟩ : ∃ x, pubT r = x := ⟨_, rfl⟩
  obtain ⟨ep, cA, hA, uA, kA, cB, ps, sA, hB, uB, kB, cC, nb, sB, hC, B⟩ := begE s e (pubT r) 3
  have KAW := hide (fun W h => awake10 W h)
  have KBG := hide (fun W G hG => big10_new6 W G hG s r e f q o hs hr he hf hq ho)
  unfold RetB at KBG
  have KIs := hide (show ∀ W, Calls Tryz.prog 18 #[.string s] W (RetB (isV s) W) from fun W => isR_all W s hs)
  have KIr := hide (show ∀ W, Calls Tryz.prog 18 #[.string r] W (RetB (isV r) W) from fun W => isR_all W r hr)
  have KIe := hide (show ∀ W, Calls Tryz.prog 18 #[.string e] W (RetB (isV e) W) from fun W => isR_all W e he)
  have KIf := hide (show ∀ W, Calls Tryz.prog 18 #[.string f] W (RetB (isV f) W) from fun W => isR_all W f hf)
  have KIq := hide (show ∀ W, Calls Tryz.prog 18 #[.string q] W (RetB (isV q) W) from fun W => isR_all W q hq)
  have KIo := hide (show ∀ W, Calls Tryz.prog 18 #[.string o] W (RetB (isV o) W) from fun W => isR_all W o ho)
  unfold RetB at KIs KIr KIe KIf KIq KIo
  have HT := hide htab
  have KPr : Hid (∀ W, Calls Tryz.prog 42 #[.string r] W (MakePost pb W)) := hide (fun W => by
      have h1 : Calls Tryz.prog 42 #[.string r] W (MakePost (pubT r) W) := PubR_any W r hr
      rw [hpb] at h1
      exact h1)
  have KB : Hid (∀ W, Tab W → Calls Tryz.prog 38 #[.string s, .string e, .string pb, .int .u64 3, .int .u32 sd] W (BeginPost 0 #[.int .i64 1, .int .u32 (sd : Nat), .int .u32 0, .int .u64 0, .string ep, .string sA, .string sB, .string ⟨#[]⟩, .string ⟨#[]⟩, .string ⟨#[]⟩, .string ⟨#[]⟩, .string ⟨#[48]⟩, .string ⟨#[48]⟩] #[.int .u32 (sd : Nat), .string e, .string cC, .string hC] W)) := hide (fun W ht => by
      have h1 := Begin_good (sd := sd) B ts te tr (by omega) W ht
      rw [hpb] at h1
      exact h1)
  have KH : Hid (∀ W, Tab W → Calls Tryz.prog 41 #[.string r, .agg #[.int .i64 1, .int .u32 (sd : Nat), .int .u32 0, .int .u64 0, .string ep, .string sA, .string sB, .string ⟨#[]⟩, .string ⟨#[]⟩, .string ⟨#[]⟩, .string ⟨#[]⟩, .string ⟨#[48]⟩, .string ⟨#[48]⟩]] W (HeaPost 0 #[.int .u32 (sd : Nat), .string ps, .int .u64 3, .string ep, .string cC, .string hC] W)) := hide (fun W ht => Hear_good B ts te tr (by omega) hsd W ht)
  have KA : Hid (∀ W, Tab W → Calls Tryz.prog 44 #[.agg #[.int .u32 (sd : Nat), .string ps, .int .u64 3, .string ep, .string cC, .string hC], .string f, .string q, .int .u32 tu] W (AnsPost 3 #[.int .i64 0, .int .u32 0, .int .u32 0, .int .u64 0, .string ⟨#[]⟩, .string ⟨#[]⟩, .string ⟨#[]⟩, .string ⟨#[]⟩, .string ⟨#[]⟩, .string ⟨#[]⟩, .string ⟨#[]⟩, .string ⟨#[]⟩, .string ⟨#[]⟩] #[.string ⟨#[]⟩, .string ⟨#[]⟩] W)) := hide (fun W ht => by
      have T := B.sizes ts te tr (by omega)
      have hA1 := Answer_any W sd 3 ps ep cC hC f q tu (T.ps.max (by omega)) (T.ep.max (by omega)) (T.cC.max (by omega)) (T.hC.max (by omega)) hf hq ht
      rw [ans_form (p := ps) (x4 := ep) (c := cC) (h := hC) (.inl h1)] at hA1
      exact hA1)
  unfold MakePost at KPr
  unfold BeginPost at KB
  unfold HeaPost at KH
  unfold AnsPost at KA
  rw [hb] at KBG
  rw [show isV s = true from ts.1] at KIs
  rw [show isV r = true from tr.1] at KIr
  rw [show isV e = true from te.1] at KIe
  have hzm : ∀ W, (binOp .eql 25 (.agg #[.int .i64 0, .int .u32 0, .int .u32 0, .int .u64 0, .string ⟨#[]⟩, .string ⟨#[]⟩, .string ⟨#[]⟩, .string ⟨#[]⟩, .string ⟨#[]⟩, .string ⟨#[]⟩, .string ⟨#[]⟩, .string ⟨#[]⟩, .string ⟨#[]⟩]) (.agg #[.int .i64 0, .int .u32 0, .int .u32 0, .int .u64 0, .string ⟨#[]⟩, .string ⟨#[]⟩, .string ⟨#[]⟩, .string ⟨#[]⟩, .string ⟨#[]⟩, .string ⟨#[]⟩, .string ⟨#[]⟩, .string ⟨#[]⟩, .string ⟨#[]⟩])).run Tryz.prog W = .ok (.bool true) W := fun W => msg_same (Mg.mk 0 0 0 0 ⟨#[]⟩ ⟨#[]⟩ ⟨#[]⟩ ⟨#[]⟩ ⟨#[]⟩ ⟨#[]⟩ ⟨#[]⟩ ⟨#[]⟩ ⟨#[]⟩) W
  have hzk : ∀ W, (binOp .eql 43 (.agg #[.string ⟨#[]⟩, .string ⟨#[]⟩]) (.agg #[.string ⟨#[]⟩, .string ⟨#[]⟩])).run Tryz.prog W = .ok (.bool true) W := fun W => keys_same ⟨#[]⟩ ⟨#[]⟩ W
  rw [h1] at KIf
  clear h1
  clear hs hr he hf hq ho hsd _htu htab hb ts tr te hpb B
  go_enter Tryz.func8, Tryz.ntmps8
  go_upto_region 6 with (first
    | (go_at_call 36; refine (KAW.out _ HT.out).mono ?_; rintro e2 wa ⟨rfl, ho⟩; have HO := hide ho; clear ho KAW)
    | (go_at_call 37; (with_reducible refine (KBG.out _ _ rfl).mono ?_); rintro e2 wg ⟨rfl, ho⟩; replace HO := htr HO ho; clear ho KBG)
    | (go_at_call 18; (with_reducible refine (KIs.out _).mono ?_); rintro e2 wi ⟨rfl, ho⟩; replace HO := htr HO ho; clear ho)
    | (go_at_call 18; (with_reducible refine (KIr.out _).mono ?_); rintro e2 wi ⟨rfl, ho⟩; replace HO := htr HO ho; clear ho)
    | (go_at_call 18; (with_reducible refine (KIe.out _).mono ?_); rintro e2 wi ⟨rfl, ho⟩; replace HO := htr HO ho; clear ho)
    | (go_at_call 42; (with_reducible refine (KPr.out _).mono ?_); rintro e2 wp ⟨rfl, ho⟩; replace HO := htr HO ho; clear ho)
    | (go_at_call 38; refine (KB.out _ (HT.out.only HO.out (by simp))).mono ?_; rintro e2 wb ⟨rfl, ho⟩; replace HO := htr HO ho; clear ho KB))
  have HM := hide (Blk.new wb 25 #[.int .i64 1, .int .u32 (sd : Nat), .int .u32 0, .int .u64 0, .string ep, .string sA, .string sB, .string ⟨#[]⟩, .string ⟨#[]⟩, .string ⟨#[]⟩, .string ⟨#[]⟩, .string ⟨#[48]⟩, .string ⟨#[48]⟩])
  have HS := hide (Blk.new (wb.alloc (.cells #[.int .i64 1, .int .u32 (sd : Nat), .int .u32 0, .int .u64 0, .string ep, .string sA, .string sB, .string ⟨#[]⟩, .string ⟨#[]⟩, .string ⟨#[]⟩, .string ⟨#[]⟩, .string ⟨#[48]⟩, .string ⟨#[48]⟩] 25)) 72 #[.int .u32 (sd : Nat), .string e, .string cC, .string hC])
  replace HO := hide (HO.out.alloc (.cells #[.int .i64 1, .int .u32 (sd : Nat), .int .u32 0, .int .u64 0, .string ep, .string sA, .string sB, .string ⟨#[]⟩, .string ⟨#[]⟩, .string ⟨#[]⟩, .string ⟨#[]⟩, .string ⟨#[48]⟩, .string ⟨#[48]⟩] 25))
  replace HM := hide (HM.out.alloc (.cells #[.int .u32 (sd : Nat), .string e, .string cC, .string hC] 72))
  replace HO := hide (HO.out.alloc (.cells #[.int .u32 (sd : Nat), .string e, .string cC, .string hC] 72))
  rw [World.size_alloc] at HS
  generalize ((wb.alloc (.cells #[.int .i64 1, .int .u32 (sd : Nat), .int .u32 0, .int .u64 0, .string ep, .string sA, .string sB, .string ⟨#[]⟩, .string ⟨#[]⟩, .string ⟨#[]⟩, .string ⟨#[]⟩, .string ⟨#[48]⟩, .string ⟨#[48]⟩] 25)).alloc (.cells #[.int .u32 (sd : Nat), .string e, .string cC, .string hC] 72)) = w2 at *
  obtain ⟨gm, hgm⟩ : ∃ g, g = wb.heap.size := ⟨_, rfl⟩
  rw [← hgm] at HM HS ⊢
  clear hgm
  obtain ⟨a0, a1, a2, a3, a4, a5, a6, a7, a8, a9, a10, a11, a12⟩ := cells13 HM.out
  go_upto_region 7 with (go_at_call 41; refine (KH.out _ (HT.out.only HO.out (by simp))).mono ?_; rintro e2 wh ⟨rfl, ho⟩; replace HM := hon HM ho; replace HS := hon HS ho; replace HO := htr HO ho; clear ho; clear KH a0 a1 a2 a3 a4 a5 a6 a7 a8 a9 a10 a11 a12)
  have HH := hide (Blk.new wh 84 #[.int .u32 (sd : Nat), .string ps, .int .u64 3, .string ep, .string cC, .string hC])
  replace HM := hide (HM.out.alloc (.cells #[.int .u32 (sd : Nat), .string ps, .int .u64 3, .string ep, .string cC, .string hC] 84))
  replace HS := hide (HS.out.alloc (.cells #[.int .u32 (sd : Nat), .string ps, .int .u64 3, .string ep, .string cC, .string hC] 84))
  replace HO := hide (HO.out.alloc (.cells #[.int .u32 (sd : Nat), .string ps, .int .u64 3, .string ep, .string cC, .string hC] 84))
  generalize (wh.alloc (.cells #[.int .u32 (sd : Nat), .string ps, .int .u64 3, .string ep, .string cC, .string hC] 84)) = w3 at *
  obtain ⟨gh, hgh⟩ : ∃ g, g = wh.heap.size := ⟨_, rfl⟩
  rw [← hgh] at HH ⊢
  clear hgh
  obtain ⟨c0, c1, c2, c3, c4, c5⟩ := cells6 HH.out
  go_upto_region 8 with (go_at_call 44; refine (KA.out _ (HT.out.only HO.out (by simp))).mono ?_; rintro e2 wn ⟨rfl, ho⟩; replace HM := hon HM ho; replace HS := hon HS ho; replace HO := htr HO ho; clear ho; clear KA HH c0 c1 c2 c3 c4 c5)
  have HN := hide (Blk.new wn 25 #[.int .i64 0, .int .u32 0, .int .u32 0, .int .u64 0, .string ⟨#[]⟩, .string ⟨#[]⟩, .string ⟨#[]⟩, .string ⟨#[]⟩, .string ⟨#[]⟩, .string ⟨#[]⟩, .string ⟨#[]⟩, .string ⟨#[]⟩, .string ⟨#[]⟩])
  have HK := hide (Blk.new (wn.alloc (.cells #[.int .i64 0, .int .u32 0, .int .u32 0, .int .u64 0, .string ⟨#[]⟩, .string ⟨#[]⟩, .string ⟨#[]⟩, .string ⟨#[]⟩, .string ⟨#[]⟩, .string ⟨#[]⟩, .string ⟨#[]⟩, .string ⟨#[]⟩, .string ⟨#[]⟩] 25)) 43 #[.string ⟨#[]⟩, .string ⟨#[]⟩])
  replace HM := hide (HM.out.alloc (.cells #[.int .i64 0, .int .u32 0, .int .u32 0, .int .u64 0, .string ⟨#[]⟩, .string ⟨#[]⟩, .string ⟨#[]⟩, .string ⟨#[]⟩, .string ⟨#[]⟩, .string ⟨#[]⟩, .string ⟨#[]⟩, .string ⟨#[]⟩, .string ⟨#[]⟩] 25))
  replace HS := hide (HS.out.alloc (.cells #[.int .i64 0, .int .u32 0, .int .u32 0, .int .u64 0, .string ⟨#[]⟩, .string ⟨#[]⟩, .string ⟨#[]⟩, .string ⟨#[]⟩, .string ⟨#[]⟩, .string ⟨#[]⟩, .string ⟨#[]⟩, .string ⟨#[]⟩, .string ⟨#[]⟩] 25))
  replace HO := hide (HO.out.alloc (.cells #[.int .i64 0, .int .u32 0, .int .u32 0, .int .u64 0, .string ⟨#[]⟩, .string ⟨#[]⟩, .string ⟨#[]⟩, .string ⟨#[]⟩, .string ⟨#[]⟩, .string ⟨#[]⟩, .string ⟨#[]⟩, .string ⟨#[]⟩, .string ⟨#[]⟩] 25))
  replace HN := hide (HN.out.alloc (.cells #[.string ⟨#[]⟩, .string ⟨#[]⟩] 43))
  replace HM := hide (HM.out.alloc (.cells #[.string ⟨#[]⟩, .string ⟨#[]⟩] 43))
  replace HS := hide (HS.out.alloc (.cells #[.string ⟨#[]⟩, .string ⟨#[]⟩] 43))
  replace HO := hide (HO.out.alloc (.cells #[.string ⟨#[]⟩, .string ⟨#[]⟩] 43))
  rw [World.size_alloc] at HK
  generalize ((wn.alloc (.cells #[.int .i64 0, .int .u32 0, .int .u32 0, .int .u64 0, .string ⟨#[]⟩, .string ⟨#[]⟩, .string ⟨#[]⟩, .string ⟨#[]⟩, .string ⟨#[]⟩, .string ⟨#[]⟩, .string ⟨#[]⟩, .string ⟨#[]⟩, .string ⟨#[]⟩] 25)).alloc (.cells #[.string ⟨#[]⟩, .string ⟨#[]⟩] 43)) = w4 at *
  obtain ⟨gn, hgn⟩ : ∃ g, g = wn.heap.size := ⟨_, rfl⟩
  rw [← hgn] at HN HK ⊢
  clear hgn
  clear HM HS HT
  obtain ⟨d0, d1, d2, d3, d4, d5, d6, d7, d8, d9, d10, d11, d12⟩ := cells13 HN.out
  obtain ⟨k0, k1⟩ := cells2 HK.out
  go_wp2_with (first
    | (go_at_call 18; (with_reducible refine (KIf.out _).mono ?_); rintro e2 wi ⟨rfl, ho⟩; replace HN := hon HN ho; replace HK := hon HK ho; replace HO := htr HO ho; clear ho; clear d0 d1 d2 d3 d4 d5 d6 d7 d8 d9 d10 d11 d12 k0 k1; obtain ⟨d0, d1, d2, d3, d4, d5, d6, d7, d8, d9, d10, d11, d12⟩ := cells13 HN.out; obtain ⟨k0, k1⟩ := cells2 HK.out)
    | (go_at_call 18; (with_reducible refine (KIq.out _).mono ?_); rintro e2 wj ⟨rfl, ho⟩; replace HN := hon HN ho; replace HK := hon HK ho; replace HO := htr HO ho; clear ho; clear d0 d1 d2 d3 d4 d5 d6 d7 d8 d9 d10 d11 d12 k0 k1; obtain ⟨d0, d1, d2, d3, d4, d5, d6, d7, d8, d9, d10, d11, d12⟩ := cells13 HN.out; obtain ⟨k0, k1⟩ := cells2 HK.out))
  go_ret
  exact ⟨rfl, HO.out⟩
set_option maxRecDepth 100000 in
set_option maxHeartbeats 12800000 in
theorem ne_q (w : World) (s r e f q o : ByteArray) (sd tu : Nat) (hs : s.size ≤ maxLen) (hr : r.size ≤ maxLen) (he : e.size ≤ maxLen) (hf : f.size ≤ maxLen) (hq : q.size ≤ maxLen) (ho : o.size ≤ maxLen) (hsd : sd < 4294967296) (_htu : tu < 4294967296) (htab : Tab w) (hb : bigB [s, r, e, f, q, o] = false) (ts : Tn 200 s) (tr : Tn 200 r) (te : Tn 200 e) (h1 : isV f = true) (h2 : isV q = false) : Calls Tryz.prog 8 #[.string s, .string r, .string e, .string f, .string q, .string o, .int .u32 sd, .int .u32 tu] w fun e' w' => e' = .returned (.bool true) ∧ Only [] w w' := by
  obtain ⟨pb, hpb⟩ : ∃ x, pubT r = x := ⟨_, rfl⟩
  obtain ⟨ep, cA, hA, uA, kA, cB, ps, sA, hB, uB, kB, cC, nb, sB, hC, B⟩ := begE s e (pubT r) 3
  have KAW := hide (fun W h => awake10 W h)
  have KBG := hide (fun W G hG => big10_new6 W G hG s r e f q o hs hr he hf hq ho)
  unfold RetB at KBG
  have KIs := hide (show ∀ W, Calls Tryz.prog 18 #[.string s] W (RetB (isV s) W) from fun W => isR_all W s hs)
  have KIr := hide (show ∀ W, Calls Tryz.prog 18 #[.string r] W (RetB (isV r) W) from fun W => isR_all W r hr)
  have KIe := hide (show ∀ W, Calls Tryz.prog 18 #[.string e] W (RetB (isV e) W) from fun W => isR_all W e he)
  have KIf := hide (show ∀ W, Calls Tryz.prog 18 #[.string f] W (RetB (isV f) W) from fun W => isR_all W f hf)
  have KIq := hide (show ∀ W, Calls Tryz.prog 18 #[.string q] W (RetB (isV q) W) from fun W => isR_all W q hq)
  have KIo := hide (show ∀ W, Calls Tryz.prog 18 #[.string o] W (RetB (isV o) W) from fun W => isR_all W o ho)
  unfold RetB at KIs KIr KIe KIf KIq KIo
  have HT := hide htab
  have KPr : Hid (∀ W, Calls Tryz.prog 42 #[.string r] W (MakePost pb W)) := hide (fun W => by
      have h1 : Calls Tryz.prog 42 #[.string r] W (MakePost (pubT r) W) := PubR_any W r hr
      rw [hpb] at h1
      exact h1)
  have KB : Hid (∀ W, Tab W → Calls Tryz.prog 38 #[.string s, .string e, .string pb, .int .u64 3, .int .u32 sd] W (BeginPost 0 #[.int .i64 1, .int .u32 (sd : Nat), .int .u32 0, .int .u64 0, .string ep, .string sA, .string sB, .string ⟨#[]⟩, .string ⟨#[]⟩, .string ⟨#[]⟩, .string ⟨#[]⟩, .string ⟨#[48]⟩, .string ⟨#[48]⟩] #[.int .u32 (sd : Nat), .string e, .string cC, .string hC] W)) := hide (fun W ht => by
      have h1 := Begin_good (sd := sd) B ts te tr (by omega) W ht
      rw [hpb] at h1
      exact h1)
  have KH : Hid (∀ W, Tab W → Calls Tryz.prog 41 #[.string r, .agg #[.int .i64 1, .int .u32 (sd : Nat), .int .u32 0, .int .u64 0, .string ep, .string sA, .string sB, .string ⟨#[]⟩, .string ⟨#[]⟩, .string ⟨#[]⟩, .string ⟨#[]⟩, .string ⟨#[48]⟩, .string ⟨#[48]⟩]] W (HeaPost 0 #[.int .u32 (sd : Nat), .string ps, .int .u64 3, .string ep, .string cC, .string hC] W)) := hide (fun W ht => Hear_good B ts te tr (by omega) hsd W ht)
  have KA : Hid (∀ W, Tab W → Calls Tryz.prog 44 #[.agg #[.int .u32 (sd : Nat), .string ps, .int .u64 3, .string ep, .string cC, .string hC], .string f, .string q, .int .u32 tu] W (AnsPost 3 #[.int .i64 0, .int .u32 0, .int .u32 0, .int .u64 0, .string ⟨#[]⟩, .string ⟨#[]⟩, .string ⟨#[]⟩, .string ⟨#[]⟩, .string ⟨#[]⟩, .string ⟨#[]⟩, .string ⟨#[]⟩, .string ⟨#[]⟩, .string ⟨#[]⟩] #[.string ⟨#[]⟩, .string ⟨#[]⟩] W)) := hide (fun W ht => by
      have T := B.sizes ts te tr (by omega)
      have hA1 := Answer_any W sd 3 ps ep cC hC f q tu (T.ps.max (by omega)) (T.ep.max (by omega)) (T.cC.max (by omega)) (T.hC.max (by omega)) hf hq ht
      rw [ans_form (p := ps) (x4 := ep) (c := cC) (h := hC) (.inr (.inl h2))] at hA1
      exact hA1)
  unfold MakePost at KPr
  unfold BeginPost at KB
  unfold HeaPost at KH
  unfold AnsPost at KA
  rw [hb] at KBG
  rw [show isV s = true from ts.1] at KIs
  rw [show isV r = true from tr.1] at KIr
  rw [show isV e = true from te.1] at KIe
  have hzm : ∀ W, (binOp .eql 25 (.agg #[.int .i64 0, .int .u32 0, .int .u32 0, .int .u64 0, .string ⟨#[]⟩, .string ⟨#[]⟩, .string ⟨#[]⟩, .string ⟨#[]⟩, .string ⟨#[]⟩, .string ⟨#[]⟩, .string ⟨#[]⟩, .string ⟨#[]⟩, .string ⟨#[]⟩]) (.agg #[.int .i64 0, .int .u32 0, .int .u32 0, .int .u64 0, .string ⟨#[]⟩, .string ⟨#[]⟩, .string ⟨#[]⟩, .string ⟨#[]⟩, .string ⟨#[]⟩, .string ⟨#[]⟩, .string ⟨#[]⟩, .string ⟨#[]⟩, .string ⟨#[]⟩])).run Tryz.prog W = .ok (.bool true) W := fun W => msg_same (Mg.mk 0 0 0 0 ⟨#[]⟩ ⟨#[]⟩ ⟨#[]⟩ ⟨#[]⟩ ⟨#[]⟩ ⟨#[]⟩ ⟨#[]⟩ ⟨#[]⟩ ⟨#[]⟩) W
  have hzk : ∀ W, (binOp .eql 43 (.agg #[.string ⟨#[]⟩, .string ⟨#[]⟩]) (.agg #[.string ⟨#[]⟩, .string ⟨#[]⟩])).run Tryz.prog W = .ok (.bool true) W := fun W => keys_same ⟨#[]⟩ ⟨#[]⟩ W
  rw [h1] at KIf
  rw [h2] at KIq
  clear h1 h2
  clear hs hr he hf hq ho hsd _htu htab hb ts tr te hpb B
  go_enter Tryz.func8, Tryz.ntmps8
  go_upto_region 6 with (first
    | (go_at_call 36; refine (KAW.out _ HT.out).mono ?_; rintro e2 wa ⟨rfl, ho⟩; have HO := hide ho; clear ho KAW)
    | (go_at_call 37; (with_reducible refine (KBG.out _ _ rfl).mono ?_); rintro e2 wg ⟨rfl, ho⟩; replace HO := htr HO ho; clear ho KBG)
    | (go_at_call 18; (with_reducible refine (KIs.out _).mono ?_); rintro e2 wi ⟨rfl, ho⟩; replace HO := htr HO ho; clear ho)
    | (go_at_call 18; (with_reducible refine (KIr.out _).mono ?_); rintro e2 wi ⟨rfl, ho⟩; replace HO := htr HO ho; clear ho)
    | (go_at_call 18; (with_reducible refine (KIe.out _).mono ?_); rintro e2 wi ⟨rfl, ho⟩; replace HO := htr HO ho; clear ho)
    | (go_at_call 42; (with_reducible refine (KPr.out _).mono ?_); rintro e2 wp ⟨rfl, ho⟩; replace HO := htr HO ho; clear ho)
    | (go_at_call 38; refine (KB.out _ (HT.out.only HO.out (by simp))).mono ?_; rintro e2 wb ⟨rfl, ho⟩; replace HO := htr HO ho; clear ho KB))
  have HM := hide (Blk.new wb 25 #[.int .i64 1, .int .u32 (sd : Nat), .int .u32 0, .int .u64 0, .string ep, .string sA, .string sB, .string ⟨#[]⟩, .string ⟨#[]⟩, .string ⟨#[]⟩, .string ⟨#[]⟩, .string ⟨#[48]⟩, .string ⟨#[48]⟩])
  have HS := hide (Blk.new (wb.alloc (.cells #[.int .i64 1, .int .u32 (sd : Nat), .int .u32 0, .int .u64 0, .string ep, .string sA, .string sB, .string ⟨#[]⟩, .string ⟨#[]⟩, .string ⟨#[]⟩, .string ⟨#[]⟩, .string ⟨#[48]⟩, .string ⟨#[48]⟩] 25)) 72 #[.int .u32 (sd : Nat), .string e, .string cC, .string hC])
  replace HO := hide (HO.out.alloc (.cells #[.int .i64 1, .int .u32 (sd : Nat), .int .u32 0, .int .u64 0, .string ep, .string sA, .string sB, .string ⟨#[]⟩, .string ⟨#[]⟩, .string ⟨#[]⟩, .string ⟨#[]⟩, .string ⟨#[48]⟩, .string ⟨#[48]⟩] 25))
  replace HM := hide (HM.out.alloc (.cells #[.int .u32 (sd : Nat), .string e, .string cC, .string hC] 72))
  replace HO := hide (HO.out.alloc (.cells #[.int .u32 (sd : Nat), .string e, .string cC, .string hC] 72))
  rw [World.size_alloc] at HS
  generalize ((wb.alloc (.cells #[.int .i64 1, .int .u32 (sd : Nat), .int .u32 0, .int .u64 0, .string ep, .string sA, .string sB, .string ⟨#[]⟩, .string ⟨#[]⟩, .string ⟨#[]⟩, .string ⟨#[]⟩, .string ⟨#[48]⟩, .string ⟨#[48]⟩] 25)).alloc (.cells #[.int .u32 (sd : Nat), .string e, .string cC, .string hC] 72)) = w2 at *
  obtain ⟨gm, hgm⟩ : ∃ g, g = wb.heap.size := ⟨_, rfl⟩
  rw [← hgm] at HM HS ⊢
  clear hgm
  obtain ⟨a0, a1, a2, a3, a4, a5, a6, a7, a8, a9, a10, a11, a12⟩ := cells13 HM.out
  go_upto_region 7 with (go_at_call 41; refine (KH.out _ (HT.out.only HO.out (by simp))).mono ?_; rintro e2 wh ⟨rfl, ho⟩; replace HM := hon HM ho; replace HS := hon HS ho; replace HO := htr HO ho; clear ho; clear KH a0 a1 a2 a3 a4 a5 a6 a7 a8 a9 a10 a11 a12)
  have HH := hide (Blk.new wh 84 #[.int .u32 (sd : Nat), .string ps, .int .u64 3, .string ep, .string cC, .string hC])
  replace HM := hide (HM.out.alloc (.cells #[.int .u32 (sd : Nat), .string ps, .int .u64 3, .string ep, .string cC, .string hC] 84))
  replace HS := hide (HS.out.alloc (.cells #[.int .u32 (sd : Nat), .string ps, .int .u64 3, .string ep, .string cC, .string hC] 84))
  replace HO := hide (HO.out.alloc (.cells #[.int .u32 (sd : Nat), .string ps, .int .u64 3, .string ep, .string cC, .string hC] 84))
  generalize (wh.alloc (.cells #[.int .u32 (sd : Nat), .string ps, .int .u64 3, .string ep, .string cC, .string hC] 84)) = w3 at *
  obtain ⟨gh, hgh⟩ : ∃ g, g = wh.heap.size := ⟨_, rfl⟩
  rw [← hgh] at HH ⊢
  clear hgh
  obtain ⟨c0, c1, c2, c3, c4, c5⟩ := cells6 HH.out
  go_upto_region 8 with (go_at_call 44; refine (KA.out _ (HT.out.only HO.out (by simp))).mono ?_; rintro e2 wn ⟨rfl, ho⟩; replace HM := hon HM ho; replace HS := hon HS ho; replace HO := htr HO ho; clear ho; clear KA HH c0 c1 c2 c3 c4 c5)
  have HN := hide (Blk.new wn 25 #[.int .i64 0, .int .u32 0, .int .u32 0, .int .u64 0, .string ⟨#[]⟩, .string ⟨#[]⟩, .string ⟨#[]⟩, .string ⟨#[]⟩, .string ⟨#[]⟩, .string ⟨#[]⟩, .string ⟨#[]⟩, .string ⟨#[]⟩, .string ⟨#[]⟩])
  have HK := hide (Blk.new (wn.alloc (.cells #[.int .i64 0, .int .u32 0, .int .u32 0, .int .u64 0, .string ⟨#[]⟩, .string ⟨#[]⟩, .string ⟨#[]⟩, .string ⟨#[]⟩, .string ⟨#[]⟩, .string ⟨#[]⟩, .string ⟨#[]⟩, .string ⟨#[]⟩, .string ⟨#[]⟩] 25)) 43 #[.string ⟨#[]⟩, .string ⟨#[]⟩])
  replace HM := hide (HM.out.alloc (.cells #[.int .i64 0, .int .u32 0, .int .u32 0, .int .u64 0, .string ⟨#[]⟩, .string ⟨#[]⟩, .string ⟨#[]⟩, .string ⟨#[]⟩, .string ⟨#[]⟩, .string ⟨#[]⟩, .string ⟨#[]⟩, .string ⟨#[]⟩, .string ⟨#[]⟩] 25))
  replace HS := hide (HS.out.alloc (.cells #[.int .i64 0, .int .u32 0, .int .u32 0, .int .u64 0, .string ⟨#[]⟩, .string ⟨#[]⟩, .string ⟨#[]⟩, .string ⟨#[]⟩, .string ⟨#[]⟩, .string ⟨#[]⟩, .string ⟨#[]⟩, .string ⟨#[]⟩, .string ⟨#[]⟩] 25))
  replace HO := hide (HO.out.alloc (.cells #[.int .i64 0, .int .u32 0, .int .u32 0, .int .u64 0, .string ⟨#[]⟩, .string ⟨#[]⟩, .string ⟨#[]⟩, .string ⟨#[]⟩, .string ⟨#[]⟩, .string ⟨#[]⟩, .string ⟨#[]⟩, .string ⟨#[]⟩, .string ⟨#[]⟩] 25))
  replace HN := hide (HN.out.alloc (.cells #[.string ⟨#[]⟩, .string ⟨#[]⟩] 43))
  replace HM := hide (HM.out.alloc (.cells #[.string ⟨#[]⟩, .string ⟨#[]⟩] 43))
  replace HS := hide (HS.out.alloc (.cells #[.string ⟨#[]⟩, .string ⟨#[]⟩] 43))
  replace HO := hide (HO.out.alloc (.cells #[.string ⟨#[]⟩, .string ⟨#[]⟩] 43))
  rw [World.size_alloc] at HK
  generalize ((wn.alloc (.cells #[.int .i64 0, .int .u32 0, .int .u32 0, .int .u64 0, .string ⟨#[]⟩, .string ⟨#[]⟩, .string ⟨#[]⟩, .string ⟨#[]⟩, .string ⟨#[]⟩, .string ⟨#[]⟩, .string ⟨#[]⟩, .string ⟨#[]⟩, .string ⟨#[]⟩] 25)).alloc (.cells #[.string ⟨#[]⟩, .string ⟨#[]⟩] 43)) = w4 at *
  obtain ⟨gn, hgn⟩ : ∃ g, g = wn.heap.size := ⟨_, rfl⟩
  rw [← hgn] at HN HK ⊢
  clear hgn
  clear HM HS HT
  obtain ⟨d0, d1, d2, d3, d4, d5, d6, d7, d8, d9, d10, d11, d12⟩ := cells13 HN.out
  obtain ⟨k0, k1⟩ := cells2 HK.out
  go_wp2_with (first
    | (go_at_call 18; (with_reducible refine (KIf.out _).mono ?_); rintro e2 wi ⟨rfl, ho⟩; replace HN := hon HN ho; replace HK := hon HK ho; replace HO := htr HO ho; clear ho; clear d0 d1 d2 d3 d4 d5 d6 d7 d8 d9 d10 d11 d12 k0 k1; obtain ⟨d0, d1, d2, d3, d4, d5, d6, d7, d8, d9, d10, d11, d12⟩ := cells13 HN.out; obtain ⟨k0, k1⟩ := cells2 HK.out)
    | (go_at_call 18; (with_reducible refine (KIq.out _).mono ?_); rintro e2 wj ⟨rfl, ho⟩; replace HN := hon HN ho; replace HK := hon HK ho; replace HO := htr HO ho; clear ho; clear d0 d1 d2 d3 d4 d5 d6 d7 d8 d9 d10 d11 d12 k0 k1; obtain ⟨d0, d1, d2, d3, d4, d5, d6, d7, d8, d9, d10, d11, d12⟩ := cells13 HN.out; obtain ⟨k0, k1⟩ := cells2 HK.out))
  go_ret
  exact ⟨rfl, HO.out⟩
end
end Go.Proofs.YtfipdjlalfpbnaaGreatDoor

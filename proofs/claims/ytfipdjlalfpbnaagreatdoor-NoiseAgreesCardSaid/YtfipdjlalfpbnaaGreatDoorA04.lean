/-
  Walks and plain words (texts Ne3). No condition beyond those that each theorem states.
-/
import Derived.Test.YtfipdjlalfpbnaaGreatDoorP27
import Derived.Test.YtfipdjlalfpbnaaGreatDoorA01
namespace Go.Proofs.YtfipdjlalfpbnaaGreatDoor
section
open Go.RowKit Go.Deep

set_option maxRecDepth 100000 in
set_option maxHeartbeats 12800000 in
theorem ne_o2 (w : World) (s r e f q o : ByteArray) (sd tu : Nat) (hs : s.size ≤ maxLen) (hr : r.size ≤ maxLen) (he : e.size ≤ maxLen) (hf : f.size ≤ maxLen) (hq : q.size ≤ maxLen) (ho : o.size ≤ maxLen) (hsd : sd < 4294967296) (htu : tu < 4294967296) (htab : Tab w) (hb : bigB [s, r, e, f, q, o] = false) {ep cA hA uA kA cB ps sA hB uB kB cC nb sB hC ep2 uA2 uB2 la ke wi em ka kb : ByteArray} (P : Play s e r f q 3 ep cA hA uA kA cB ps sA hB uB kB cC nb sB hC ep2 uA2 uB2 la ke wi em ka kb) (h1 : isV o = true) (h2 : o = q) (hvo : finV e cC hC s o sd (ansM tu sd ep2 em) = (0, kb, ka)) : Calls Tryz.prog 8 #[.string s, .string r, .string e, .string f, .string q, .string o, .int .u32 sd, .int .u32 tu] w fun e' w' => e' = .returned (.bool true) ∧ Only [] w w' := by
  obtain ⟨pb, hpb⟩ : ∃ x, pubT r = x := ⟨_, rfl⟩
  have B := P.B
  have ts := P.ts
  have te := P.te
  have tr := P.tr
  have KAW := hide (fun W h => awake10 W h)
  have KBG := hide (fun W G hG => big10_new6 W G hG s r e f q o hs hr he hf hq ho)
  unfold RetB at KBG
  have KIs := hide (show ∀ W, Calls Tryz.prog 18 #[.string s] W (RetB (isV s) W) from fun W => isR_all W s hs)
  have KIr := hide (show ∀ W, Calls Tryz.prog 18 #[.string r] W (RetB (isV r) W) from fun W => isR_all W r hr)
  have KIe := hide (show ∀ W, Calls Tryz.prog 18 #[.string e] W (RetB (isV e) W) from fun W => isR_all W e he)
  have KIf := hide (show ∀ W, Calls Tryz.prog 18 #[.string f] W (RetB (isV f) W) from fun W => isR_all W f hf)
  have KIq := hide (show ∀ W, Calls Tryz.prog 18 #[.string q] W (RetB (isV q) W) from fun W => isR_all W q hq)
  have KIo := hide (show ∀ W, Calls Tryz.prog 18 #[.string o] W (RetB (isV o) W) from fun W => isR_all W o ho)
  unfold RetB at KIs KIr KIe KIf KIq KIo
  have HT := hide htab
  have KPr : Hid (∀ W, Calls Tryz.prog 42 #[.string r] W (MakePost pb W)) := hide (fun W => by
      have h1 : Calls Tryz.prog 42 #[.string r] W (MakePost (pubT r) W) := PubR_any W r hr
      rw [hpb] at h1
      exact h1)
  have KB : Hid (∀ W, Tab W → Calls Tryz.prog 38 #[.string s, .string e, .string pb, .int .u64 3, .int .u32 sd] W (BeginPost 0 #[.int .i64 1, .int .u32 (sd : Nat), .int .u32 0, .int .u64 0, .string ep, .string sA, .string sB, .string ⟨#[]⟩, .string ⟨#[]⟩, .string ⟨#[]⟩, .string ⟨#[]⟩, .string ⟨#[48]⟩, .string ⟨#[48]⟩] #[.int .u32 (sd : Nat), .string e, .string cC, .string hC] W)) := hide (fun W ht => by
      have h1 := Begin_good (sd := sd) B ts te tr (by omega) W ht
      rw [hpb] at h1
      exact h1)
  have KH : Hid (∀ W, Tab W → Calls Tryz.prog 41 #[.string r, .agg #[.int .i64 1, .int .u32 (sd : Nat), .int .u32 0, .int .u64 0, .string ep, .string sA, .string sB, .string ⟨#[]⟩, .string ⟨#[]⟩, .string ⟨#[]⟩, .string ⟨#[]⟩, .string ⟨#[48]⟩, .string ⟨#[48]⟩]] W (HeaPost 0 #[.int .u32 (sd : Nat), .string ps, .int .u64 3, .string ep, .string cC, .string hC] W)) := hide (fun W ht => Hear_good B ts te tr (by omega) hsd W ht)
  have KA : Hid (∀ W, Tab W → Calls Tryz.prog 44 #[.agg #[.int .u32 (sd : Nat), .string ps, .int .u64 3, .string ep, .string cC, .string hC], .string f, .string q, .int .u32 tu] W (AnsPost 0 #[.int .i64 2, .int .u32 (tu : Nat), .int .u32 (sd : Nat), .int .u64 0, .string ep2, .string ⟨#[]⟩, .string ⟨#[]⟩, .string em, .string ⟨#[]⟩, .string ⟨#[]⟩, .string ⟨#[]⟩, .string ⟨#[48]⟩, .string ⟨#[48]⟩] #[.string ka, .string kb] W)) := hide (fun W ht => Answer_good P W ht)
  obtain ⟨r', hr0⟩ : ∃ x, x = (sd + 1) % 4294967296 := ⟨_, rfl⟩
  have hr2 : r' < 4294967296 := by omega
  have hrn : r' ≠ sd := by omega
  have hwr : IntKind.u32.wrap ((sd : Int) + 1) = (r' : Nat) := by rw [IntKind.wrap_u32]; omega
  have KF1 : Hid (∀ W, Tab W → Calls Tryz.prog 48 #[.agg #[.int .u32 (sd : Nat), .string e, .string cC, .string hC], .string s, .string q, .agg #[.int .i64 2, .int .u32 (tu : Nat), .int .u32 (sd : Nat), .int .u64 0, .string ep2, .string ⟨#[]⟩, .string ⟨#[]⟩, .string em, .string ⟨#[]⟩, .string ⟨#[]⟩, .string ⟨#[]⟩, .string ⟨#[48]⟩, .string ⟨#[48]⟩]] W (FinPost 0 kb ka W)) := hide (fun W ht => Finish_at P hq P.ends.tem (by omega) htu hsd P.same W ht)
  have KF2 : Hid (∀ W, Tab W → Calls Tryz.prog 48 #[.agg #[.int .u32 (sd : Nat), .string e, .string cC, .string hC], .string s, .string o, .agg #[.int .i64 2, .int .u32 (tu : Nat), .int .u32 (sd : Nat), .int .u64 0, .string ep2, .string ⟨#[]⟩, .string ⟨#[]⟩, .string em, .string ⟨#[]⟩, .string ⟨#[]⟩, .string ⟨#[]⟩, .string ⟨#[48]⟩, .string ⟨#[48]⟩]] W (FinPost 0 kb ka W)) := hide (fun W ht => Finish_at P ho P.ends.tem (by omega) htu hsd hvo W ht)
  have KF3 : Hid (∀ W, Tab W → Calls Tryz.prog 48 #[.agg #[.int .u32 (sd : Nat), .string e, .string cC, .string hC], .string s, .string q, .agg #[.int .i64 2, .int .u32 (tu : Nat), .int .u32 (r' : Nat), .int .u64 0, .string ep2, .string ⟨#[]⟩, .string ⟨#[]⟩, .string em, .string ⟨#[]⟩, .string ⟨#[]⟩, .string ⟨#[]⟩, .string ⟨#[48]⟩, .string ⟨#[48]⟩]] W (FinPost 6 ByteArray.empty ByteArray.empty W)) := hide (fun W ht => Finish_at P hq P.ends.tem (by omega) htu hr2 (P.none hrn) W ht)
  have KF4 : Hid (∀ W, Tab W → Calls Tryz.prog 48 #[.agg #[.int .u32 (sd : Nat), .string e, .string cC, .string hC], .string s, .string q, .agg #[.int .i64 2, .int .u32 (tu : Nat), .int .u32 (sd : Nat), .int .u64 0, .string ep2, .string ⟨#[]⟩, .string ⟨#[]⟩, .string ⟨#[110, 49]⟩, .string ⟨#[]⟩, .string ⟨#[]⟩, .string ⟨#[]⟩, .string ⟨#[48]⟩, .string ⟨#[48]⟩]] W (FinPost 8 ByteArray.empty ByteArray.empty W)) := hide (fun W ht => Finish_at P hq (two_bytes 110 49 (by kernel_rfl)) (by omega) htu hsd P.bent W ht)
  have KF5 : Hid (∀ W, Tab W → Calls Tryz.prog 48 #[.agg #[.int .u32 (sd : Nat), .string e, .string cC, .string hC], .string s, .string q, .agg #[.int .i64 1, .int .u32 (sd : Nat), .int .u32 0, .int .u64 0, .string ep, .string sA, .string sB, .string ⟨#[]⟩, .string ⟨#[]⟩, .string ⟨#[]⟩, .string ⟨#[]⟩, .string ⟨#[48]⟩, .string ⟨#[48]⟩]] W (FinPost 3 ByteArray.empty ByteArray.empty W)) := hide (fun W ht => by
      have T := P.sizes
      have h1 := Finish_any W e cC hC s q sd 1 sd 0 0 ep sA sB ⟨#[]⟩ ⟨#[]⟩ ⟨#[]⟩ ⟨#[]⟩ ⟨#[48]⟩ ⟨#[48]⟩ (P.te.max (by omega)) (T.cC.max (by omega)) (T.hC.max (by omega)) (P.ts.max (by omega)) hq (fine_beg hsd T.ep T.sA T.sB (by omega) (by omega) (by omega)) ht
      rw [fin_form (.inr (.inr (.inr (.inr (.inr (.inr (.inl (show (1 : Int) ≠ 2 by decide))))))))] at h1
      exact h1)
  have KPf : Hid (∀ W, Calls Tryz.prog 42 #[.string f] W (MakePost ep2 W)) := hide (fun W => by
      have h1 : Calls Tryz.prog 42 #[.string f] W (MakePost (pubT f) W) := PubR_any W f hf
      rw [P.f0] at h1
      exact h1)
  have KPe : Hid (∀ W, Calls Tryz.prog 42 #[.string e] W (MakePost ep W)) := hide (fun W => by
      have h1 : Calls Tryz.prog 42 #[.string e] W (MakePost (pubT e) W) := PubR_any W e he
      rw [P.B.e0] at h1
      exact h1)
  have KPs : Hid (∀ W, Calls Tryz.prog 42 #[.string s] W (MakePost ps W)) := hide (fun W => by
      have h1 : Calls Tryz.prog 42 #[.string s] W (MakePost (pubT s) W) := PubR_any W s hs
      rw [P.B.e6] at h1
      exact h1)
  have KG1 := hide (fun W => AgreeR_any W f ep hf (P.sizes.ep.max (by omega)))
  rw [P.f1] at KG1
  have KG2 := hide (fun W => AgreeR_any W f ps hf (P.sizes.ps.max (by omega)))
  rw [P.f2] at KG2
  have KLS := hide (fun W => LastR_any W cC hC ep2 uA2 uB2 q (P.sizes.cC.max (by omega)) (P.sizes.hC.max (by omega)) (P.tep2.max (by omega)) (P.tuA2.max (by omega)) (P.tuB2.max (by omega)) hq)
  rw [P.E.e1, P.E.e2, P.E.e3, P.E.e4, P.E.e5, P.E.e6] at KLS
  unfold MakePost at KPr KPf KPe KPs KG1 KG2
  unfold BeginPost at KB
  unfold HeaPost at KH
  unfold AnsPost at KA
  unfold FinPost at KF1 KF2 KF3 KF4 KF5
  rw [hb] at KBG
  rw [show isV s = true from P.ts.1] at KIs
  rw [show isV r = true from P.tr.1] at KIr
  rw [show isV e = true from P.te.1] at KIe
  rw [show isV f = true from P.tf.1] at KIf
  rw [show isV q = true from P.tq.1] at KIq
  have hmd : ∀ W, (binOp .neq 25 (.agg #[.int .i64 2, .int .u32 (tu : Nat), .int .u32 (sd : Nat), .int .u64 0, .string ep2, .string ⟨#[]⟩, .string ⟨#[]⟩, .string em, .string ⟨#[]⟩, .string ⟨#[]⟩, .string ⟨#[]⟩, .string ⟨#[48]⟩, .string ⟨#[48]⟩]) (.agg #[.int .i64 2, .int .u32 (tu : Nat), .int .u32 (sd : Nat), .int .u64 0, .string ep2, .string ⟨#[]⟩, .string ⟨#[]⟩, .string em, .string ⟨#[]⟩, .string ⟨#[]⟩, .string ⟨#[]⟩, .string ⟨#[48]⟩, .string ⟨#[48]⟩])).run Tryz.prog W = .ok (.bool false) W := fun W => msg_diff (Mg.mk 2 tu sd 0 ep2 ⟨#[]⟩ ⟨#[]⟩ em ⟨#[]⟩ ⟨#[]⟩ ⟨#[]⟩ ⟨#[48]⟩ ⟨#[48]⟩) W
  have hkd : ∀ W, (binOp .neq 43 (.agg #[.string ka, .string kb]) (.agg #[.string ka, .string kb])).run Tryz.prog W = .ok (.bool false) W := fun W => keys_diff ka kb W
  have hkl : ∀ W, (binOp .neq 43 (.agg #[.string kb, .string ka]) (.agg #[.string kb, .string ka])).run Tryz.prog W = .ok (.bool false) W := fun W => keys_diff kb ka W
  rw [h1] at KIo
  have hoq : (o.toList == q.toList) = true := by rw [h2]; simp
  clear h1 h2 hvo
  clear hs hr he hf hq ho hsd htu htab hb ts tr te hpb B P hr2 hrn hr0
  go_enter Tryz.func8, Tryz.ntmps8
  go_upto_region 6 with (first
    | (go_at_call 36; refine (KAW.out _ HT.out).mono ?_; rintro e2 wa ⟨rfl, ho⟩; have HO := hide ho; clear ho KAW)
    | (go_at_call 37; (with_reducible refine (KBG.out _ _ rfl).mono ?_); rintro e2 wg ⟨rfl, ho⟩; replace HO := htr HO ho; clear ho KBG)
    | (go_at_call 18; (with_reducible refine (KIs.out _).mono ?_); rintro e2 wi ⟨rfl, ho⟩; replace HO := htr HO ho; clear ho)
    | (go_at_call 18; (with_reducible refine (KIr.out _).mono ?_); rintro e2 wi ⟨rfl, ho⟩; replace HO := htr HO ho; clear ho)
    | (go_at_call 18; (with_reducible refine (KIe.out _).mono ?_); rintro e2 wi ⟨rfl, ho⟩; replace HO := htr HO ho; clear ho)
    | (go_at_call 42; (with_reducible refine (KPr.out _).mono ?_); rintro e2 wp ⟨rfl, ho⟩; replace HO := htr HO ho; clear ho)
    | (go_at_call 38; refine (KB.out _ (HT.out.only HO.out (by simp))).mono ?_; rintro e2 wb ⟨rfl, ho⟩; replace HO := htr HO ho; clear ho KB))
  have HM := hide (Blk.new wb 25 #[.int .i64 1, .int .u32 (sd : Nat), .int .u32 0, .int .u64 0, .string ep, .string sA, .string sB, .string ⟨#[]⟩, .string ⟨#[]⟩, .string ⟨#[]⟩, .string ⟨#[]⟩, .string ⟨#[48]⟩, .string ⟨#[48]⟩])
  have HS := hide (Blk.new (wb.alloc (.cells #[.int .i64 1, .int .u32 (sd : Nat), .int .u32 0, .int .u64 0, .string ep, .string sA, .string sB, .string ⟨#[]⟩, .string ⟨#[]⟩, .string ⟨#[]⟩, .string ⟨#[]⟩, .string ⟨#[48]⟩, .string ⟨#[48]⟩] 25)) 72 #[.int .u32 (sd : Nat), .string e, .string cC, .string hC])
  replace HO := hide (HO.out.alloc (.cells #[.int .i64 1, .int .u32 (sd : Nat), .int .u32 0, .int .u64 0, .string ep, .string sA, .string sB, .string ⟨#[]⟩, .string ⟨#[]⟩, .string ⟨#[]⟩, .string ⟨#[]⟩, .string ⟨#[48]⟩, .string ⟨#[48]⟩] 25))
  replace HM := hide (HM.out.alloc (.cells #[.int .u32 (sd : Nat), .string e, .string cC, .string hC] 72))
  replace HO := hide (HO.out.alloc (.cells #[.int .u32 (sd : Nat), .string e, .string cC, .string hC] 72))
  rw [World.size_alloc] at HS
  generalize ((wb.alloc (.cells #[.int .i64 1, .int .u32 (sd : Nat), .int .u32 0, .int .u64 0, .string ep, .string sA, .string sB, .string ⟨#[]⟩, .string ⟨#[]⟩, .string ⟨#[]⟩, .string ⟨#[]⟩, .string ⟨#[48]⟩, .string ⟨#[48]⟩] 25)).alloc (.cells #[.int .u32 (sd : Nat), .string e, .string cC, .string hC] 72)) = w2 at *
  obtain ⟨gm, hgm⟩ : ∃ g, g = wb.heap.size := ⟨_, rfl⟩
  rw [← hgm] at HM HS ⊢
  clear hgm
  obtain ⟨a0, a1, a2, a3, a4, a5, a6, a7, a8, a9, a10, a11, a12⟩ := cells13 HM.out
  go_upto_region 7 with (go_at_call 41; refine (KH.out _ (HT.out.only HO.out (by simp))).mono ?_; rintro e2 wh ⟨rfl, ho⟩; replace HM := hon HM ho; replace HS := hon HS ho; replace HO := htr HO ho; clear ho; clear KH a0 a1 a2 a3 a4 a5 a6 a7 a8 a9 a10 a11 a12)
  have HH := hide (Blk.new wh 84 #[.int .u32 (sd : Nat), .string ps, .int .u64 3, .string ep, .string cC, .string hC])
  replace HM := hide (HM.out.alloc (.cells #[.int .u32 (sd : Nat), .string ps, .int .u64 3, .string ep, .string cC, .string hC] 84))
  replace HS := hide (HS.out.alloc (.cells #[.int .u32 (sd : Nat), .string ps, .int .u64 3, .string ep, .string cC, .string hC] 84))
  replace HO := hide (HO.out.alloc (.cells #[.int .u32 (sd : Nat), .string ps, .int .u64 3, .string ep, .string cC, .string hC] 84))
  generalize (wh.alloc (.cells #[.int .u32 (sd : Nat), .string ps, .int .u64 3, .string ep, .string cC, .string hC] 84)) = w3 at *
  obtain ⟨gh, hgh⟩ : ∃ g, g = wh.heap.size := ⟨_, rfl⟩
  rw [← hgh] at HH ⊢
  clear hgh
  obtain ⟨c0, c1, c2, c3, c4, c5⟩ := cells6 HH.out
  go_upto_region 8 with (go_at_call 44; refine (KA.out _ (HT.out.only HO.out (by simp))).mono ?_; rintro e2 wn ⟨rfl, ho⟩; replace HM := hon HM ho; replace HS := hon HS ho; replace HO := htr HO ho; clear ho; clear KA HH c0 c1 c2 c3 c4 c5)
  have HN := hide (Blk.new wn 25 #[.int .i64 2, .int .u32 (tu : Nat), .int .u32 (sd : Nat), .int .u64 0, .string ep2, .string ⟨#[]⟩, .string ⟨#[]⟩, .string em, .string ⟨#[]⟩, .string ⟨#[]⟩, .string ⟨#[]⟩, .string ⟨#[48]⟩, .string ⟨#[48]⟩])
  have HK := hide (Blk.new (wn.alloc (.cells #[.int .i64 2, .int .u32 (tu : Nat), .int .u32 (sd : Nat), .int .u64 0, .string ep2, .string ⟨#[]⟩, .string ⟨#[]⟩, .string em, .string ⟨#[]⟩, .string ⟨#[]⟩, .string ⟨#[]⟩, .string ⟨#[48]⟩, .string ⟨#[48]⟩] 25)) 43 #[.string ka, .string kb])
  replace HM := hide (HM.out.alloc (.cells #[.int .i64 2, .int .u32 (tu : Nat), .int .u32 (sd : Nat), .int .u64 0, .string ep2, .string ⟨#[]⟩, .string ⟨#[]⟩, .string em, .string ⟨#[]⟩, .string ⟨#[]⟩, .string ⟨#[]⟩, .string ⟨#[48]⟩, .string ⟨#[48]⟩] 25))
  replace HS := hide (HS.out.alloc (.cells #[.int .i64 2, .int .u32 (tu : Nat), .int .u32 (sd : Nat), .int .u64 0, .string ep2, .string ⟨#[]⟩, .string ⟨#[]⟩, .string em, .string ⟨#[]⟩, .string ⟨#[]⟩, .string ⟨#[]⟩, .string ⟨#[48]⟩, .string ⟨#[48]⟩] 25))
  replace HO := hide (HO.out.alloc (.cells #[.int .i64 2, .int .u32 (tu : Nat), .int .u32 (sd : Nat), .int .u64 0, .string ep2, .string ⟨#[]⟩, .string ⟨#[]⟩, .string em, .string ⟨#[]⟩, .string ⟨#[]⟩, .string ⟨#[]⟩, .string ⟨#[48]⟩, .string ⟨#[48]⟩] 25))
  replace HN := hide (HN.out.alloc (.cells #[.string ka, .string kb] 43))
  replace HM := hide (HM.out.alloc (.cells #[.string ka, .string kb] 43))
  replace HS := hide (HS.out.alloc (.cells #[.string ka, .string kb] 43))
  replace HO := hide (HO.out.alloc (.cells #[.string ka, .string kb] 43))
  rw [World.size_alloc] at HK
  generalize ((wn.alloc (.cells #[.int .i64 2, .int .u32 (tu : Nat), .int .u32 (sd : Nat), .int .u64 0, .string ep2, .string ⟨#[]⟩, .string ⟨#[]⟩, .string em, .string ⟨#[]⟩, .string ⟨#[]⟩, .string ⟨#[]⟩, .string ⟨#[48]⟩, .string ⟨#[48]⟩] 25)).alloc (.cells #[.string ka, .string kb] 43)) = w4 at *
  obtain ⟨gn, hgn⟩ : ∃ g, g = wn.heap.size := ⟨_, rfl⟩
  rw [← hgn] at HN HK ⊢
  clear hgn
  go_upto_region 12 with (first
    | (go_at_call 18; (with_reducible refine (KIf.out _).mono ?_); rintro e2 wi ⟨rfl, ho⟩; replace HM := hon HM ho; replace HS := hon HS ho; replace HN := hon HN ho; replace HK := hon HK ho; replace HO := htr HO ho; clear ho)
    | (go_at_call 18; (with_reducible refine (KIq.out _).mono ?_); rintro e2 wj ⟨rfl, ho⟩; replace HM := hon HM ho; replace HS := hon HS ho; replace HN := hon HN ho; replace HK := hon HK ho; replace HO := htr HO ho; clear ho))
  rename World => w5
  refine wp_region_held_drew (S := fun W => Only [] w5 W) (by kernel_rfl) (by exact (Only.refl [] w5).drew) (fun hHeld => ?_); generalize w5.drew = wd12 at *
  refine tk 0 ?_; refine tk 1 ?_ (hy := by (intro w hSw; (try dsimp only at hSw); have H_ := HS.out.only hSw (by simp); obtain ⟨b0, b1, b2, b3⟩ := cells4 H_; clear H_; go_simp; try with_reducible rfl)); refine tk 2 ?_
  refine tk 3 ?_ (hy := by (intro w hSw; (try dsimp only at hSw); have H_ := HS.out.only hSw (by simp); obtain ⟨b0, b1, b2, b3⟩ := cells4 H_; clear H_; go_simp; try with_reducible rfl)); refine tk 4 ?_; refine tk 5 ?_; refine tk 7 ?_
  refine tk 8 ?_; refine tk 11 ?_; refine tk 12 ?_; refine tk 15 ?_; refine wpAnyH_ready (rs := [6]) (by kernel_rfl) (by simp) ?_; refine (AllReadyH.cons rfl (fun K hK => ?_) AllReadyH.nil); go_simp
  (go_at_call 42; refine (KPf.out _).mono ?_; rintro e2 w6 ⟨rfl, ho⟩); refine hK.out _ _ (by first | exact hHeld.trans ho | exact hHeld.trans (ho.mono (by simp))) (fun hN => ?_); clear hK K ho hHeld
  have hHeld := hN; clear hN; (try simp only [zsa, zsb, zsc, Act.put, zsd, zse, zsf])
  refine wpAnyH_ready (rs := [9]) (by kernel_rfl) (by simp) ?_; refine (AllReadyH.cons rfl (fun K hK => ?_) AllReadyH.nil); go_simp; (go_at_call 42; refine (KPe.out _).mono ?_; rintro e2 w9 ⟨rfl, ho⟩)
  refine hK.out _ _ (by first | exact hHeld.trans ho | exact hHeld.trans (ho.mono (by simp))) (fun hN => ?_); clear hK K ho hHeld; have hHeld := hN; clear hN; (try simp only [zsa, zsb, zsc, Act.put, zsd, zse, zsf])
  refine wpAnyH_ready (rs := [10]) (by kernel_rfl) (by simp) ?_; refine (AllReadyH.cons rfl (fun K hK => ?_) AllReadyH.nil); go_simp; (go_at_call 46; refine (KG1.out _).mono ?_; rintro e2 w10 ⟨rfl, ho⟩)
  refine hK.out _ _ (by first | exact hHeld.trans ho | exact hHeld.trans (ho.mono (by simp))) (fun hN => ?_); clear hK K ho hHeld; have hHeld := hN; clear hN; (try simp only [zsa, zsb, zsc, Act.put, zsd, zse, zsf])
  refine wpAnyH_ready (rs := [13]) (by kernel_rfl) (by simp) ?_; refine (AllReadyH.cons rfl (fun K hK => ?_) AllReadyH.nil); go_simp; (go_at_call 42; refine (KPs.out _).mono ?_; rintro e2 w13 ⟨rfl, ho⟩)
  refine hK.out _ _ (by first | exact hHeld.trans ho | exact hHeld.trans (ho.mono (by simp))) (fun hN => ?_); clear hK K ho hHeld; have hHeld := hN; clear hN; (try simp only [zsa, zsb, zsc, Act.put, zsd, zse, zsf])
  refine wpAnyH_ready (rs := [14]) (by kernel_rfl) (by simp) ?_; refine (AllReadyH.cons rfl (fun K hK => ?_) AllReadyH.nil); go_simp; (go_at_call 46; refine (KG2.out _).mono ?_; rintro e2 w14 ⟨rfl, ho⟩)
  refine hK.out _ _ (by first | exact hHeld.trans ho | exact hHeld.trans (ho.mono (by simp))) (fun hN => ?_); clear hK K ho hHeld; have hHeld := hN; clear hN; (try simp only [zsa, zsb, zsc, Act.put, zsd, zse, zsf])
  refine wpAnyH_ready (rs := [16]) (by kernel_rfl) (by simp) ?_; refine (AllReadyH.cons rfl (fun K hK => ?_) AllReadyH.nil); go_simp; (go_at_call 45; refine (KLS.out _).mono ?_; rintro e2 w16 ⟨rfl, ho⟩)
  refine hK.out _ _ (by first | exact hHeld.trans ho | exact hHeld.trans (ho.mono (by simp))) (fun hN => ?_); clear hK K ho hHeld; have hHeld := hN; clear hN; (try simp only [zsa, zsb, zsc, Act.put, zsd, zse, zsf])
  refine tk 17 ?_; refine tk 18 ?_; refine tk 19 ?_; refine tk 20 ?_; refine tk 21 ?_; refine tk 22 ?_; refine tk 23 ?_; refine wpAnyH_done (by kernel_rfl) ?_ _
  replace HM := hon HM hHeld; replace HS := hon HS hHeld; replace HN := hon HN hHeld; replace HK := hon HK hHeld; replace HO := htr HO hHeld
  clear hHeld
  clear KPe KPs KG1 KG2 KLS
  rename World => w6
  go_upto_region 13 with fail
  rename World => w7
  refine wp_region_held_drew (S := fun W => Only [] w7 W) (by kernel_rfl) (by exact (Only.refl [] w7).drew) (fun hHeld => ?_); generalize w7.drew = wd13 at *
  refine tk 0 ?_; refine tk 1 ?_; refine tk 2 ?_
  refine tk 3 ?_ (hy := by (intro w hSw; (try dsimp only at hSw); have H_ := HN.out.only hSw (by simp); obtain ⟨d0, d1, d2, d3, d4, d5, d6, d7, d8, d9, d10, d11, d12⟩ := cells13 H_; clear H_; go_simp; try with_reducible rfl))
  refine tk 4 ?_; refine tk 5 ?_; refine tk 6 ?_; refine tk 8 ?_; refine wpAnyH_ready (rs := [7]) (by kernel_rfl) (by simp) ?_; refine (AllReadyH.cons rfl (fun K hK => ?_) AllReadyH.nil); go_simp
  (go_at_call 42; refine (KPf.out _).mono ?_; rintro e2 w7 ⟨rfl, ho⟩); refine hK.out _ _ (by first | exact hHeld.trans ho | exact hHeld.trans (ho.mono (by simp))) (fun hN => ?_); clear hK K ho hHeld
  have hHeld := hN; clear hN; (try simp only [zsa, zsb, zsc, Act.put, zsd, zse, zsf])
  refine wpAnyH_ready (rs := [9]) (by kernel_rfl) (by simp) ?_; refine (AllReadyH.cons rfl (fun K hK => ?_) AllReadyH.nil); go_simp; refine hK.out _ _ (by exact hHeld.alloc _) (fun hN => ?_); clear hK K hHeld; have hHeld := hN
  clear hN; (try simp only [zsa, zsb, zsc, Act.put, zsd, zse, zsf]); have HSB := hide (Blk.new w7 9 #[.string ep2, .string em, .string ⟨#[48]⟩, .string ⟨#[48]⟩]); obtain ⟨sg, hsg⟩ : ∃ x, x = w7.heap.size := ⟨_, rfl⟩
  rw [← hsg] at HSB ⊢; clear hsg; generalize (w7.alloc (.cells #[.string ep2, .string em, .string ⟨#[48]⟩, .string ⟨#[48]⟩] 9)) = w9 at *
  refine wpAnyH_ready (rs := [10]) (by kernel_rfl) (by simp) ?_; refine (AllReadyH.cons rfl (fun K hK => ?_) AllReadyH.nil); go_simp
  (obtain ⟨s0, s1, s2, s3⟩ := cells4 HSB.out; go_at_call 47; refine (With_2 w9 tu sd 0 sg 0 4 ep2 em ⟨#[48]⟩ ⟨#[48]⟩ (by omega) s0 s1 s2 s3).mono ?_; rintro e2 w10 ⟨rfl, ho⟩; clear s0 s1 s2 s3; replace HSB := hon HSB ho)
  refine hK.out _ _ (by first | exact hHeld.trans ho | exact hHeld.trans (ho.mono (by simp))) (fun hN => ?_); clear hK K ho hHeld; have hHeld := hN; clear hN; (try simp only [zsa, zsb, zsc, Act.put, zsd, zse, zsf])
  refine tk 11 ?_; refine tk 12 ?_; refine tk 13 ?_; refine tk 14 ?_ (hy := by (intro w hSw; (try dsimp only at hSw); have H_ := HK.out.only hSw (by simp); obtain ⟨k0, k1⟩ := cells2 H_; clear H_; go_simp; try with_reducible rfl))
  refine tk 15 ?_; refine tk 16 ?_; refine tk 17 ?_; refine tk 18 ?_; refine tk 19 ?_; refine wpAnyH_done (by kernel_rfl) ?_ _
  replace HM := hon HM hHeld; replace HS := hon HS hHeld; replace HN := hon HN hHeld; replace HK := hon HK hHeld; replace HO := htr HO hHeld
  clear hHeld
  clear KPf HK
  rename World => w8
  obtain ⟨b0, b1, b2, b3⟩ := cells4 HS.out
  obtain ⟨d0, d1, d2, d3, d4, d5, d6, d7, d8, d9, d10, d11, d12⟩ := cells13 HN.out
  go_upto_region 16 with (go_at_call 48; refine (KF1.out _ (HT.out.only HO.out (by simp))).mono ?_; rintro e2 wf ⟨rfl, ho⟩; replace HM := hon HM ho; replace HS := hon HS ho; replace HN := hon HN ho; replace HO := htr HO ho; clear ho; clear KF1 b0 b1 b2 b3 d0 d1 d2 d3 d4 d5 d6 d7 d8 d9 d10 d11 d12)
  have HL := hide (Blk.new wf 43 #[.string kb, .string ka])
  replace HM := hide (HM.out.alloc (.cells #[.string kb, .string ka] 43))
  replace HS := hide (HS.out.alloc (.cells #[.string kb, .string ka] 43))
  replace HN := hide (HN.out.alloc (.cells #[.string kb, .string ka] 43))
  replace HO := hide (HO.out.alloc (.cells #[.string kb, .string ka] 43))
  generalize (wf.alloc (.cells #[.string kb, .string ka] 43)) = w9 at *
  obtain ⟨gl, hgl⟩ : ∃ g, g = wf.heap.size := ⟨_, rfl⟩
  rw [← hgl] at HL ⊢
  clear hgl
  obtain ⟨x0, x1⟩ := cells2 HL.out
  go_upto_region 18 with fail
  clear x0 x1 HL
  obtain ⟨b0, b1, b2, b3⟩ := cells4 HS.out
  obtain ⟨d0, d1, d2, d3, d4, d5, d6, d7, d8, d9, d10, d11, d12⟩ := cells13 HN.out
  go_upto_region 19 with (go_at_call 48; refine (KF2.out _ (HT.out.only HO.out (by simp))).mono ?_; rintro e2 wo ⟨rfl, ho⟩; replace HM := hon HM ho; replace HS := hon HS ho; replace HN := hon HN ho; replace HO := htr HO ho; clear ho; clear KF2 b0 b1 b2 b3 d0 d1 d2 d3 d4 d5 d6 d7 d8 d9 d10 d11 d12)
  replace HM := hide (HM.out.alloc (.cells #[.string kb, .string ka] 43))
  replace HS := hide (HS.out.alloc (.cells #[.string kb, .string ka] 43))
  replace HN := hide (HN.out.alloc (.cells #[.string kb, .string ka] 43))
  replace HO := hide (HO.out.alloc (.cells #[.string kb, .string ka] 43))
  generalize (wo.alloc (.cells #[.string kb, .string ka] 43)) = w10 at *
  go_upto_region 21 with (go_at_call 18; (with_reducible refine (KIo.out _).mono ?_); rintro e2 wp ⟨rfl, ho⟩; replace HM := hon HM ho; replace HS := hon HS ho; replace HN := hon HN ho; replace HO := htr HO ho; clear ho)
  obtain ⟨d0, d1, d2, d3, d4, d5, d6, d7, d8, d9, d10, d11, d12⟩ := cells13 HN.out
  go_upto_region 22 with fail
  rename World => wq
  clear d0 d1 d2 d3 d4 d5 d6 d7 d8 d9 d10 d11 d12
  have HBt := hide (Blk.new wq 25 #[.int .i64 2, .int .u32 (tu : Nat), .int .u32 (sd : Nat), .int .u64 0, .string ep2, .string ⟨#[]⟩, .string ⟨#[]⟩, .string em, .string ⟨#[]⟩, .string ⟨#[]⟩, .string ⟨#[]⟩, .string ⟨#[48]⟩, .string ⟨#[48]⟩])
  have LS := hide HS.out.lt
  have LN := hide HN.out.lt
  have LM := hide HM.out.lt
  have LO := hide HO.out.size
  replace HM := hide (HM.out.alloc (.cells #[.int .i64 2, .int .u32 (tu : Nat), .int .u32 (sd : Nat), .int .u64 0, .string ep2, .string ⟨#[]⟩, .string ⟨#[]⟩, .string em, .string ⟨#[]⟩, .string ⟨#[]⟩, .string ⟨#[]⟩, .string ⟨#[48]⟩, .string ⟨#[48]⟩] 25))
  replace HS := hide (HS.out.alloc (.cells #[.int .i64 2, .int .u32 (tu : Nat), .int .u32 (sd : Nat), .int .u64 0, .string ep2, .string ⟨#[]⟩, .string ⟨#[]⟩, .string em, .string ⟨#[]⟩, .string ⟨#[]⟩, .string ⟨#[]⟩, .string ⟨#[48]⟩, .string ⟨#[48]⟩] 25))
  replace HN := hide (HN.out.alloc (.cells #[.int .i64 2, .int .u32 (tu : Nat), .int .u32 (sd : Nat), .int .u64 0, .string ep2, .string ⟨#[]⟩, .string ⟨#[]⟩, .string em, .string ⟨#[]⟩, .string ⟨#[]⟩, .string ⟨#[]⟩, .string ⟨#[48]⟩, .string ⟨#[48]⟩] 25))
  replace HO := hide (HO.out.alloc (.cells #[.int .i64 2, .int .u32 (tu : Nat), .int .u32 (sd : Nat), .int .u64 0, .string ep2, .string ⟨#[]⟩, .string ⟨#[]⟩, .string em, .string ⟨#[]⟩, .string ⟨#[]⟩, .string ⟨#[]⟩, .string ⟨#[48]⟩, .string ⟨#[48]⟩] 25))
  generalize (wq.alloc (.cells #[.int .i64 2, .int .u32 (tu : Nat), .int .u32 (sd : Nat), .int .u64 0, .string ep2, .string ⟨#[]⟩, .string ⟨#[]⟩, .string em, .string ⟨#[]⟩, .string ⟨#[]⟩, .string ⟨#[]⟩, .string ⟨#[48]⟩, .string ⟨#[48]⟩] 25)) = w11 at *
  obtain ⟨gb, hgb⟩ : ∃ g, g = wq.heap.size := ⟨_, rfl⟩
  rw [← hgb] at HBt LS LN LM LO ⊢
  clear hgb
  obtain ⟨p0, p1, p2, p3, p4, p5, p6, p7, p8, p9, p10, p11, p12⟩ := cells13 HBt.out
  have pf := HBt.out.frozen
  go_upto_region 23 with fail
  clear p0 p1 p2 p3 p4 p5 p6 p7 p8 p9 p10 p11 p12 pf
  replace HBt := hide (show Blk (w11.setCell ⟨gb, 2, none⟩ (.int .u32 (r' : Nat))) gb 25 #[.int .i64 2, .int .u32 (tu : Nat), .int .u32 (r' : Nat), .int .u64 0, .string ep2, .string ⟨#[]⟩, .string ⟨#[]⟩, .string em, .string ⟨#[]⟩, .string ⟨#[]⟩, .string ⟨#[]⟩, .string ⟨#[48]⟩, .string ⟨#[48]⟩] from by
    have h2 := HBt.out.set_ 2 (.int .u32 (r' : Nat))
    simp only [List.setIfInBounds_toArray, List.set_cons_zero, List.set_cons_succ] at h2
    exact h2)
  replace HS := hide (HS.out.far (p := ⟨gb, 2, none⟩) (Nat.ne_of_lt LS.out) (.int .u32 (r' : Nat)))
  replace HN := hide (HN.out.far (p := ⟨gb, 2, none⟩) (Nat.ne_of_lt LN.out) (.int .u32 (r' : Nat)))
  replace HM := hide (HM.out.far (p := ⟨gb, 2, none⟩) (Nat.ne_of_lt LM.out) (.int .u32 (r' : Nat)))
  replace HO := hide (HO.out.setCell (p := ⟨gb, 2, none⟩) (.inr LO.out) (.int .u32 (r' : Nat)))
  generalize (w11.setCell ⟨gb, 2, none⟩ (.int .u32 (r' : Nat))) = w12 at *
  obtain ⟨b0, b1, b2, b3⟩ := cells4 HS.out
  obtain ⟨p0, p1, p2, p3, p4, p5, p6, p7, p8, p9, p10, p11, p12⟩ := cells13 HBt.out
  go_upto_region 24 with (go_at_call 48; refine (KF3.out _ (HT.out.only HO.out (by simp))).mono ?_; rintro e2 wr ⟨rfl, ho⟩; replace HM := hon HM ho; replace HS := hon HS ho; replace HN := hon HN ho; replace HO := htr HO ho; replace HBt := hon HBt ho; clear ho; clear KF3 b0 b1 b2 b3 p0 p1 p2 p3 p4 p5 p6 p7 p8 p9 p10 p11 p12)
  replace HM := hide (HM.out.alloc (.cells #[.string ByteArray.empty, .string ByteArray.empty] 43))
  replace HS := hide (HS.out.alloc (.cells #[.string ByteArray.empty, .string ByteArray.empty] 43))
  replace HN := hide (HN.out.alloc (.cells #[.string ByteArray.empty, .string ByteArray.empty] 43))
  replace HO := hide (HO.out.alloc (.cells #[.string ByteArray.empty, .string ByteArray.empty] 43))
  replace HBt := hide (HBt.out.alloc (.cells #[.string ByteArray.empty, .string ByteArray.empty] 43))
  generalize (wr.alloc (.cells #[.string ByteArray.empty, .string ByteArray.empty] 43)) = w13 at *
  obtain ⟨d0, d1, d2, d3, d4, d5, d6, d7, d8, d9, d10, d11, d12⟩ := cells13 HN.out
  obtain ⟨p0, p1, p2, p3, p4, p5, p6, p7, p8, p9, p10, p11, p12⟩ := cells13 HBt.out
  have pf := HBt.out.frozen
  go_upto_region 25 with fail
  clear d0 d1 d2 d3 d4 d5 d6 d7 d8 d9 d10 d11 d12 p0 p1 p2 p3 p4 p5 p6 p7 p8 p9 p10 p11 p12 pf
  replace HBt := hide (set13 HBt.out (.int .i64 2) (.int .u32 (tu : Nat)) (.int .u32 (sd : Nat)) (.int .u64 0) (.string ep2) (.string ⟨#[]⟩) (.string ⟨#[]⟩) (.string em) (.string ⟨#[]⟩) (.string ⟨#[]⟩) (.string ⟨#[]⟩) (.string ⟨#[48]⟩) (.string ⟨#[48]⟩))
  replace HS := hide (nfar13 (R := gb) HS.out (Nat.ne_of_lt LS.out) (.int .i64 2) (.int .u32 (tu : Nat)) (.int .u32 (sd : Nat)) (.int .u64 0) (.string ep2) (.string ⟨#[]⟩) (.string ⟨#[]⟩) (.string em) (.string ⟨#[]⟩) (.string ⟨#[]⟩) (.string ⟨#[]⟩) (.string ⟨#[48]⟩) (.string ⟨#[48]⟩))
  replace HN := hide (nfar13 (R := gb) HN.out (Nat.ne_of_lt LN.out) (.int .i64 2) (.int .u32 (tu : Nat)) (.int .u32 (sd : Nat)) (.int .u64 0) (.string ep2) (.string ⟨#[]⟩) (.string ⟨#[]⟩) (.string em) (.string ⟨#[]⟩) (.string ⟨#[]⟩) (.string ⟨#[]⟩) (.string ⟨#[48]⟩) (.string ⟨#[48]⟩))
  replace HM := hide (nfar13 (R := gb) HM.out (Nat.ne_of_lt LM.out) (.int .i64 2) (.int .u32 (tu : Nat)) (.int .u32 (sd : Nat)) (.int .u64 0) (.string ep2) (.string ⟨#[]⟩) (.string ⟨#[]⟩) (.string em) (.string ⟨#[]⟩) (.string ⟨#[]⟩) (.string ⟨#[]⟩) (.string ⟨#[48]⟩) (.string ⟨#[48]⟩))
  replace HO := hide (only13 (R := gb) HO.out (.inr LO.out) (.int .i64 2) (.int .u32 (tu : Nat)) (.int .u32 (sd : Nat)) (.int .u64 0) (.string ep2) (.string ⟨#[]⟩) (.string ⟨#[]⟩) (.string em) (.string ⟨#[]⟩) (.string ⟨#[]⟩) (.string ⟨#[]⟩) (.string ⟨#[48]⟩) (.string ⟨#[48]⟩))
  generalize (((((((((((((w13.setCell ⟨gb, 0, none⟩ (.int .i64 2)).setCell ⟨gb, 1, none⟩ (.int .u32 (tu : Nat))).setCell ⟨gb, 2, none⟩ (.int .u32 (sd : Nat))).setCell ⟨gb, 3, none⟩ (.int .u64 0)).setCell ⟨gb, 4, none⟩ (.string ep2)).setCell ⟨gb, 5, none⟩ (.string ⟨#[]⟩)).setCell ⟨gb, 6, none⟩ (.string ⟨#[]⟩)).setCell ⟨gb, 7, none⟩ (.string em)).setCell ⟨gb, 8, none⟩ (.string ⟨#[]⟩)).setCell ⟨gb, 9, none⟩ (.string ⟨#[]⟩)).setCell ⟨gb, 10, none⟩ (.string ⟨#[]⟩)).setCell ⟨gb, 11, none⟩ (.string ⟨#[48]⟩)).setCell ⟨gb, 12, none⟩ (.string ⟨#[48]⟩)) = w14 at *
  obtain ⟨p0, p1, p2, p3, p4, p5, p6, p7, p8, p9, p10, p11, p12⟩ := cells13 HBt.out
  have pf := HBt.out.frozen
  go_upto_region 26 with fail
  clear p0 p1 p2 p3 p4 p5 p6 p7 p8 p9 p10 p11 p12 pf
  replace HBt := hide (show Blk (w14.setCell ⟨gb, 7, none⟩ (.string ⟨#[110, 49]⟩)) gb 25 #[.int .i64 2, .int .u32 (tu : Nat), .int .u32 (sd : Nat), .int .u64 0, .string ep2, .string ⟨#[]⟩, .string ⟨#[]⟩, .string ⟨#[110, 49]⟩, .string ⟨#[]⟩, .string ⟨#[]⟩, .string ⟨#[]⟩, .string ⟨#[48]⟩, .string ⟨#[48]⟩] from by
    have h2 := HBt.out.set_ 7 (.string ⟨#[110, 49]⟩)
    simp only [List.setIfInBounds_toArray, List.set_cons_zero, List.set_cons_succ] at h2
    exact h2)
  replace HS := hide (HS.out.far (p := ⟨gb, 7, none⟩) (Nat.ne_of_lt LS.out) (.string ⟨#[110, 49]⟩))
  replace HN := hide (HN.out.far (p := ⟨gb, 7, none⟩) (Nat.ne_of_lt LN.out) (.string ⟨#[110, 49]⟩))
  replace HM := hide (HM.out.far (p := ⟨gb, 7, none⟩) (Nat.ne_of_lt LM.out) (.string ⟨#[110, 49]⟩))
  replace HO := hide (HO.out.setCell (p := ⟨gb, 7, none⟩) (.inr LO.out) (.string ⟨#[110, 49]⟩))
  generalize (w14.setCell ⟨gb, 7, none⟩ (.string ⟨#[110, 49]⟩)) = w15 at *
  obtain ⟨b0, b1, b2, b3⟩ := cells4 HS.out
  obtain ⟨p0, p1, p2, p3, p4, p5, p6, p7, p8, p9, p10, p11, p12⟩ := cells13 HBt.out
  go_upto_region 27 with (go_at_call 48; refine (KF4.out _ (HT.out.only HO.out (by simp))).mono ?_; rintro e2 wt ⟨rfl, ho⟩; replace HM := hon HM ho; replace HS := hon HS ho; replace HO := htr HO ho; clear ho; clear KF4 HBt HN b0 b1 b2 b3 p0 p1 p2 p3 p4 p5 p6 p7 p8 p9 p10 p11 p12)
  replace HM := hide (HM.out.alloc (.cells #[.string ByteArray.empty, .string ByteArray.empty] 43))
  replace HS := hide (HS.out.alloc (.cells #[.string ByteArray.empty, .string ByteArray.empty] 43))
  replace HO := hide (HO.out.alloc (.cells #[.string ByteArray.empty, .string ByteArray.empty] 43))
  generalize (wt.alloc (.cells #[.string ByteArray.empty, .string ByteArray.empty] 43)) = w16 at *
  obtain ⟨b0, b1, b2, b3⟩ := cells4 HS.out
  obtain ⟨a0, a1, a2, a3, a4, a5, a6, a7, a8, a9, a10, a11, a12⟩ := cells13 HM.out
  go_upto_region 28 with (go_at_call 48; refine (KF5.out _ (HT.out.only HO.out (by simp))).mono ?_; rintro e2 wv ⟨rfl, ho⟩; replace HO := htr HO ho; clear ho; clear KF5 HM HS HT b0 b1 b2 b3 a0 a1 a2 a3 a4 a5 a6 a7 a8 a9 a10 a11 a12)
  replace HO := hide (HO.out.alloc (.cells #[.string ByteArray.empty, .string ByteArray.empty] 43))
  generalize (wv.alloc (.cells #[.string ByteArray.empty, .string ByteArray.empty] 43)) = w17 at *
  go_wp2_with fail
  go_ret
  exact ⟨rfl, HO.out⟩
end
end Go.Proofs.YtfipdjlalfpbnaaGreatDoor

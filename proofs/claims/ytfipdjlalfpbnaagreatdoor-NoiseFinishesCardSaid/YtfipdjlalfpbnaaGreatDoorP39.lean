/-
  Walks and plain words (texts Na3, Nl2, Nl3). No condition beyond those that each theorem states.
-/
import Derived.Test.YtfipdjlalfpbnaaGreatDoorP32
import Derived.Test.YtfipdjlalfpbnaaGreatDoorP35
import Derived.Test.YtfipdjlalfpbnaaGreatDoorP37
import Derived.Test.YtfipdjlalfpbnaaGreatDoorP38
namespace Go.Proofs.YtfipdjlalfpbnaaGreatDoor
section
open Go.RowKit Go.Deep

def ansMC (sd re : Nat) (a : Ans) : Array Value := if a.k = 0 then #[.int .i64 2, .int .u32 (sd : Nat), .int .u32 (re : Nat), .int .u64 0, .string a.eph, .string ⟨#[]⟩, .string ⟨#[]⟩, .string a.em, .string ⟨#[]⟩, .string ⟨#[]⟩, .string ⟨#[]⟩, .string ⟨#[48]⟩, .string ⟨#[48]⟩] else #[.int .i64 0, .int .u32 0, .int .u32 0, .int .u64 0, .string ⟨#[]⟩, .string ⟨#[]⟩, .string ⟨#[]⟩, .string ⟨#[]⟩, .string ⟨#[]⟩, .string ⟨#[]⟩, .string ⟨#[]⟩, .string ⟨#[]⟩, .string ⟨#[]⟩]
def ansKC (a : Ans) : Array Value := #[.string a.a, .string a.b]
theorem an_no {k : Int} {sd re : Nat} {w w' : World} {e : Ending} (hk : k ≠ 0) (h : AnsPost k #[.int .i64 0, .int .u32 0, .int .u32 0, .int .u64 0, .string ⟨#[]⟩, .string ⟨#[]⟩, .string ⟨#[]⟩, .string ⟨#[]⟩, .string ⟨#[]⟩, .string ⟨#[]⟩, .string ⟨#[]⟩, .string ⟨#[]⟩, .string ⟨#[]⟩] #[.string ⟨#[]⟩, .string ⟨#[]⟩] w e w') : AnsPost (Ans.mk k ByteArray.empty ByteArray.empty ByteArray.empty ByteArray.empty).k (ansMC sd re (Ans.mk k ByteArray.empty ByteArray.empty ByteArray.empty ByteArray.empty)) (ansKC (Ans.mk k ByteArray.empty ByteArray.empty ByteArray.empty ByteArray.empty)) w e w' := by
  unfold ansMC ansKC
  rw [if_neg (show (Ans.mk k ByteArray.empty ByteArray.empty ByteArray.empty ByteArray.empty).k ≠ 0 from hk)]
  exact h
theorem an_yes {sd re : Nat} {ep em ka kb : ByteArray} {w w' : World} {e : Ending} (h : AnsPost 0 #[.int .i64 2, .int .u32 (sd : Nat), .int .u32 (re : Nat), .int .u64 0, .string ep, .string ⟨#[]⟩, .string ⟨#[]⟩, .string em, .string ⟨#[]⟩, .string ⟨#[]⟩, .string ⟨#[]⟩, .string ⟨#[48]⟩, .string ⟨#[48]⟩] #[.string ka, .string kb] w e w') : AnsPost (Ans.mk 0 ep em ka kb).k (ansMC sd re (Ans.mk 0 ep em ka kb)) (ansKC (Ans.mk 0 ep em ka kb)) w e w' := by
  unfold ansMC ansKC
  rw [if_pos rfl]
  exact h
theorem Answer_any (w : World) (re st : Nat) (p x4 c h f q : ByteArray) (sd : Nat) (hp : p.size ≤ maxLen) (hx4 : x4.size ≤ maxLen) (hc : c.size ≤ maxLen) (hh : h.size ≤ maxLen) (hf : f.size ≤ maxLen) (hq : q.size ≤ maxLen) (htab : Tab w) : Calls Tryz.prog 44 #[.agg #[.int .u32 (re : Nat), .string p, .int .u64 (st : Nat), .string x4, .string c, .string h], .string f, .string q, .int .u32 sd] w (AnsPost (ansV p x4 c h f q).k (ansMC sd re (ansV p x4 c h f q)) (ansKC (ansV p x4 c h f q)) w) := by
  obtain ⟨ep, e_ep⟩ : ∃ x, pubT f = x := ⟨_, rfl⟩
  obtain ⟨uA, e_uA⟩ : ∃ x, agreeT f x4 = x := ⟨_, rfl⟩
  obtain ⟨uB, e_uB⟩ : ∃ x, agreeT f p = x := ⟨_, rfl⟩
  obtain ⟨la, e_la⟩ : ∃ x, endA c ep uA uB q = x := ⟨_, rfl⟩
  obtain ⟨ke, e_ke⟩ : ∃ x, endK c ep uA uB q = x := ⟨_, rfl⟩
  obtain ⟨wi, e_wi⟩ : ∃ x, endW c h ep uA uB q = x := ⟨_, rfl⟩
  obtain ⟨em, e_em⟩ : ∃ x, sealN ke ⟨#[48]⟩ wi = x := ⟨_, rfl⟩
  obtain ⟨ka, e_ka⟩ : ∃ x, kdfT 2 la ⟨#[48]⟩ = x := ⟨_, rfl⟩
  obtain ⟨kb, e_kb⟩ : ∃ x, kdfT 1 la ⟨#[48]⟩ = x := ⟨_, rfl⟩
  have hv : ansV p x4 c h f q = if termsB [f, q] = false ∨ pubsB [p, x4] = false ∨ termsB [c, h] = false then ⟨3, ByteArray.empty, ByteArray.empty, ByteArray.empty, ByteArray.empty⟩ else if madeB [ep, em, ka, kb] = false then ⟨5, ByteArray.empty, ByteArray.empty, ByteArray.empty, ByteArray.empty⟩ else ⟨0, ep, em, ka, kb⟩ := by
    unfold ansV
    simp only [e_ep, e_uA, e_uB, e_la, e_ke, e_wi, e_em, e_ka, e_kb]
  rw [hv]
  clear hv
  by_cases hg : termsB [f, q] = false ∨ pubsB [p, x4] = false ∨ termsB [c, h] = false
  · rw [if_pos hg]
    cases hb : termsB [f, q] with
    | false => exact (Answer_f1 w re st p x4 c h f q sd hp hx4 hc hh hf hq hb).mono fun e w' h => an_no (by decide) h
    | true =>
      cases hb2 : pubsB [p, x4] with
      | false => exact (Answer_f2 w re st p x4 c h f q sd hp hx4 hc hh hf hq hb hb2).mono fun e w' h => an_no (by decide) h
      | true =>
        have hb3 : termsB [c, h] = false := by
          rcases hg with h1 | h1 | h1
          · rw [hb] at h1; cases h1
          · rw [hb2] at h1; cases h1
          · exact h1
        exact (Answer_f3 w re st p x4 c h f q sd hp hx4 hc hh hf hq hb hb2 hb3).mono fun e w' h => an_no (by decide) h
  · rw [if_neg hg]
    have hb : termsB [f, q] = true := by cases h1 : termsB [f, q]; exact absurd (.inl h1) hg; rfl
    have hb2 : pubsB [p, x4] = true := by cases h1 : pubsB [p, x4]; exact absurd (.inr (.inl h1)) hg; rfl
    have hb3 : termsB [c, h] = true := by cases h1 : termsB [c, h]; exact absurd (.inr (.inr h1)) hg; rfl
    refine Answer_walk w re st p x4 c h f q sd hp hx4 hc hh hf hq hb hb2 hb3 htab ep uA uB la ke wi em ka kb e_ep e_uA e_uB e_la e_ke e_wi e_em e_ka e_kb _ (fun h1 e w' h => ?_) (fun h1 e w' h => ?_)
    · rw [if_pos h1]; exact an_no (by decide) h
    · rw [if_neg (by rw [h1]; decide)]; exact an_yes h
end
section
open Go.RowKit Go.Deep

set_option maxRecDepth 100000 in
set_option maxHeartbeats 12800000 in
theorem keys_fields : Tryz.prog.underlying 43 = some (.struct (Tryz.prog.fieldsOf 43)) := by kernel_rfl
theorem keys_same (a : ByteArray) (b : ByteArray) (W : World) : (binOp .eql 43 (.agg #[.string a, .string b]) (.agg #[.string a, .string b])).run Tryz.prog W = .ok (.bool true) W := by
  rw [run_eql_struct, run_equalIn_agg W 9999 _ _ _ keys_fields (by kernel_rfl)]
  simp [Program.fieldsOf, Tryz.underlying43, Op.eqFields, go_sem]
theorem keys_diff (a : ByteArray) (b : ByteArray) (W : World) : (binOp .neq 43 (.agg #[.string a, .string b]) (.agg #[.string a, .string b])).run Tryz.prog W = .ok (.bool false) W := by
  rw [run_neq_struct, run_equalIn_agg W 9999 _ _ _ keys_fields (by kernel_rfl)]
  simp [Program.fieldsOf, Tryz.underlying43, Op.eqFields, go_sem]
theorem msg_same (m : Mg) (W : World) : (binOp .eql 25 (.agg m.cells) (.agg m.cells)).run Tryz.prog W = .ok (.bool true) W := by
  rw [msg_eql, (eqM_iff m m).2 rfl]
theorem msg_diff (m : Mg) (W : World) : (binOp .neq 25 (.agg m.cells) (.agg m.cells)).run Tryz.prog W = .ok (.bool false) W := by
  rw [msg_neq, (eqM_iff m m).2 rfl]
  rfl
theorem Tn.max {N : Nat} {s : ByteArray} (h : Tn N s) (hN : N ≤ 100000) : s.size ≤ maxLen := Nat.le_trans h.2 (by unfold maxLen; omega)
theorem fine_beg {sd : Nat} {ep sA sB : ByteArray} {a b c : Nat} (hs : sd < 4294967296) (h4 : Tn a ep) (h5 : Tn b sA) (h6 : Tn c sB) (ha : a ≤ 100000) (hb : b ≤ 100000) (hc : c ≤ 100000) : (Mg.mk 1 sd 0 0 ep sA sB ⟨#[]⟩ ⟨#[]⟩ ⟨#[]⟩ ⟨#[]⟩ ⟨#[48]⟩ ⟨#[48]⟩).Fine :=
  ⟨hs, (show 0 < 4294967296 by decide), (show 0 < 18446744073709551616 by decide), h4.max ha, h5.max hb, h6.max hc, Nat.zero_le _, Nat.zero_le _, Nat.zero_le _, Nat.zero_le _, zero_size, zero_size⟩
theorem fine_ans {sd re : Nat} {ep em : ByteArray} {a b : Nat} (hs : sd < 4294967296) (hr : re < 4294967296) (h4 : Tn a ep) (h5 : Tn b em) (ha : a ≤ 100000) (hb : b ≤ 100000) : (Mg.mk 2 sd re 0 ep ⟨#[]⟩ ⟨#[]⟩ em ⟨#[]⟩ ⟨#[]⟩ ⟨#[]⟩ ⟨#[48]⟩ ⟨#[48]⟩).Fine :=
  ⟨hs, hr, (show 0 < 18446744073709551616 by decide), h4.max ha, Nat.zero_le _, Nat.zero_le _, h5.max hb, Nat.zero_le _, Nat.zero_le _, Nat.zero_le _, zero_size, zero_size⟩
section
variable {s e r f q : ByteArray} {n sd tu : Nat} {ep cA hA uA kA cB ps sA hB uB kB cC nb sB hC ep2 uA2 uB2 la ke wi em ka kb : ByteArray}
theorem Begin_good (B : BegE s e (pubT r) n ep cA hA uA kA cB ps sA hB uB kB cC nb sB hC) (ts : Tn 200 s) (te : Tn 200 e) (tr : Tn 200 r) (hn : n < 18446744073709551616) (w : World) (htab : Tab w) :
    Calls Tryz.prog 38 #[.string s, .string e, .string (pubT r), .int .u64 n, .int .u32 sd] w (BeginPost 0 #[.int .i64 1, .int .u32 (sd : Nat), .int .u32 0, .int .u64 0, .string ep, .string sA, .string sB, .string ⟨#[]⟩, .string ⟨#[]⟩, .string ⟨#[]⟩, .string ⟨#[]⟩, .string ⟨#[48]⟩, .string ⟨#[48]⟩] #[.int .u32 (sd : Nat), .string e, .string cC, .string hC] w) := by
  have h := Begin_any w s e (pubT r) n sd (ts.max (by omega)) (te.max (by omega)) (pubT_size r) hn htab
  rw [B.is] at h
  have hb : (termsB [s, e] && pubsB [pubT r]) = true := by
    rw [termsB_yes (by intro p hp; simp only [List.mem_cons, List.not_mem_nil, or_false] at hp; rcases hp with rfl | rfl; exact ts.1; exact te.1), pubs_one, pub_kind tr (by omega)]
    rfl
  rw [if_neg (by rw [hb]; decide), if_neg (by rw [begin_made (B.sizes ts te tr hn)]; decide)] at h
  exact h
theorem Hear_good (B : BegE s e (pubT r) n ep cA hA uA kA cB ps sA hB uB kB cC nb sB hC) (ts : Tn 200 s) (te : Tn 200 e) (tr : Tn 200 r) (hn : n < 18446744073709551616) (hsd : sd < 4294967296) (w : World) (htab : Tab w) :
    Calls Tryz.prog 41 #[.string r, .agg #[.int .i64 1, .int .u32 (sd : Nat), .int .u32 0, .int .u64 0, .string ep, .string sA, .string sB, .string ⟨#[]⟩, .string ⟨#[]⟩, .string ⟨#[]⟩, .string ⟨#[]⟩, .string ⟨#[48]⟩, .string ⟨#[48]⟩]] w (HeaPost 0 #[.int .u32 (sd : Nat), .string ps, .int .u64 (n : Nat), .string ep, .string cC, .string hC] w) := by
  have T := B.sizes ts te tr hn
  have h := Hear_any w r 1 sd 0 0 ep sA sB ⟨#[]⟩ ⟨#[]⟩ ⟨#[]⟩ ⟨#[]⟩ ⟨#[48]⟩ ⟨#[48]⟩ (tr.max (by omega)) (fine_beg hsd T.ep T.sA T.sB (by omega) (by omega) (by omega)) htab
  rw [show hearV r (Mg.mk 1 sd 0 0 ep sA sB ⟨#[]⟩ ⟨#[]⟩ ⟨#[]⟩ ⟨#[]⟩ ⟨#[48]⟩ ⟨#[48]⟩) = ⟨0, ps, n, cC, hC⟩ from hear_begin B ts te tr hn] at h
  exact h
theorem Answer_good (P : Play s e r f q n ep cA hA uA kA cB ps sA hB uB kB cC nb sB hC ep2 uA2 uB2 la ke wi em ka kb) (w : World) (htab : Tab w) :
    Calls Tryz.prog 44 #[.agg #[.int .u32 (sd : Nat), .string ps, .int .u64 (n : Nat), .string ep, .string cC, .string hC], .string f, .string q, .int .u32 tu] w (AnsPost 0 #[.int .i64 2, .int .u32 (tu : Nat), .int .u32 (sd : Nat), .int .u64 0, .string ep2, .string ⟨#[]⟩, .string ⟨#[]⟩, .string em, .string ⟨#[]⟩, .string ⟨#[]⟩, .string ⟨#[]⟩, .string ⟨#[48]⟩, .string ⟨#[48]⟩] #[.string ka, .string kb] w) := by
  have T := P.sizes
  have h := Answer_any w sd n ps ep cC hC f q tu (T.ps.max (by omega)) (T.ep.max (by omega)) (T.cC.max (by omega)) (T.hC.max (by omega)) (P.tf.max (by omega)) (P.tq.max (by omega)) htab
  rw [P.ans] at h
  exact h
theorem Finish_at {r' : Nat} {em' q' : ByteArray} {c : Int} {a b : ByteArray} (P : Play s e r f q n ep cA hA uA kA cB ps sA hB uB kB cC nb sB hC ep2 uA2 uB2 la ke wi em ka kb) (tq' : q'.size ≤ maxLen) {N : Nat} (tem : Tn N em') (hN : N ≤ 100000) (htu : tu < 4294967296) (hr' : r' < 4294967296) (hv : finV e cC hC s q' sd (ansM tu r' ep2 em') = (c, a, b)) (w : World) (htab : Tab w) :
    Calls Tryz.prog 48 #[.agg #[.int .u32 (sd : Nat), .string e, .string cC, .string hC], .string s, .string q', .agg #[.int .i64 2, .int .u32 (tu : Nat), .int .u32 (r' : Nat), .int .u64 0, .string ep2, .string ⟨#[]⟩, .string ⟨#[]⟩, .string em', .string ⟨#[]⟩, .string ⟨#[]⟩, .string ⟨#[]⟩, .string ⟨#[48]⟩, .string ⟨#[48]⟩]] w (FinPost c a b w) := by
  have T := P.sizes
  have h := Finish_any w e cC hC s q' sd 2 tu r' 0 ep2 ⟨#[]⟩ ⟨#[]⟩ em' ⟨#[]⟩ ⟨#[]⟩ ⟨#[]⟩ ⟨#[48]⟩ ⟨#[48]⟩ (P.te.max (by omega)) (T.cC.max (by omega)) (T.hC.max (by omega)) (P.ts.max (by omega)) tq' (fine_ans htu hr' P.tep2 tem (by omega) hN) htab
  rw [show finV e cC hC s q' sd (Mg.mk 2 tu r' 0 ep2 ⟨#[]⟩ ⟨#[]⟩ em' ⟨#[]⟩ ⟨#[]⟩ ⟨#[]⟩ ⟨#[48]⟩ ⟨#[48]⟩) = (c, a, b) from hv] at h
  exact h
end
end
section
open Go.RowKit Go.Deep

theorem pub_text {s a : ByteArray} (h : parseV s = some (5, 0, [], [a])) : s = pubT a := (read_make h).1.symm
theorem two_bytes (x y : UInt8) (h : (parseV ⟨#[x, y]⟩).isSome = true) : Tn 200 ⟨#[x, y]⟩ := ⟨h, by show 2 ≤ 200; omega⟩
set_option maxRecDepth 100000 in
set_option maxHeartbeats 12800000 in
theorem awake10 (w : World) (htab : Tab w) : Calls Tryz.prog 36 #[] w fun e w' => e = .returned (.bool true) ∧ Only [] w w' := by
  obtain ⟨ep, cA, hA, uA, kA, cB, ps, sA, hB, uB, kB, cC, nb, sB, hC, ep2, uA2, uB2, la, ke, wi, em, ka, kb, P⟩ := play_is (s := ⟨#[97, 49]⟩) (e := ⟨#[97, 50]⟩) (r := ⟨#[97, 51]⟩) (f := ⟨#[97, 52]⟩) (q := ⟨#[97, 57]⟩) (n := 7) (two_bytes _ _ (by kernel_rfl)) (two_bytes _ _ (by kernel_rfl)) (two_bytes _ _ (by kernel_rfl)) (two_bytes _ _ (by kernel_rfl)) (two_bytes _ _ (by kernel_rfl)) (by omega)
  have hpk : (⟨#[112, 40, 97, 51, 41]⟩ : ByteArray) = pubT ⟨#[97, 51]⟩ := pub_text (by kernel_rfl)
  have hpe : (ps.toList == [112, 40, 97, 49, 41]) = true := by
    rw [← P.B.e6, ← pub_text (s := ⟨#[112, 40, 97, 49, 41]⟩) (by kernel_rfl)]
    kernel_rfl
  have KB : Hid (∀ W, Tab W → Calls Tryz.prog 38 #[.string ⟨#[97, 49]⟩, .string ⟨#[97, 50]⟩, .string ⟨#[112, 40, 97, 51, 41]⟩, .int .u64 7, .int .u32 5] W (BeginPost 0 #[.int .i64 1, .int .u32 5, .int .u32 0, .int .u64 0, .string ep, .string sA, .string sB, .string ⟨#[]⟩, .string ⟨#[]⟩, .string ⟨#[]⟩, .string ⟨#[]⟩, .string ⟨#[48]⟩, .string ⟨#[48]⟩] #[.int .u32 5, .string ⟨#[97, 50]⟩, .string cC, .string hC] W)) := hide (fun W ht => by
    have h := Begin_good (sd := 5) P.B P.ts P.te P.tr (by omega) W ht
    rw [← hpk] at h
    exact h)
  have KH : Hid (∀ W, Tab W → Calls Tryz.prog 41 #[.string ⟨#[97, 51]⟩, .agg #[.int .i64 1, .int .u32 5, .int .u32 0, .int .u64 0, .string ep, .string sA, .string sB, .string ⟨#[]⟩, .string ⟨#[]⟩, .string ⟨#[]⟩, .string ⟨#[]⟩, .string ⟨#[48]⟩, .string ⟨#[48]⟩]] W (HeaPost 0 #[.int .u32 5, .string ps, .int .u64 7, .string ep, .string cC, .string hC] W)) := hide (fun W ht => Hear_good (sd := 5) P.B P.ts P.te P.tr (by omega) (by omega) W ht)
  have KA : Hid (∀ W, Tab W → Calls Tryz.prog 44 #[.agg #[.int .u32 5, .string ps, .int .u64 7, .string ep, .string cC, .string hC], .string ⟨#[97, 52]⟩, .string ⟨#[97, 57]⟩, .int .u32 6] W (AnsPost 0 #[.int .i64 2, .int .u32 6, .int .u32 5, .int .u64 0, .string ep2, .string ⟨#[]⟩, .string ⟨#[]⟩, .string em, .string ⟨#[]⟩, .string ⟨#[]⟩, .string ⟨#[]⟩, .string ⟨#[48]⟩, .string ⟨#[48]⟩] #[.string ka, .string kb] W)) := hide (fun W ht => Answer_good (sd := 5) (tu := 6) P W ht)
  have KF1 : Hid (∀ W, Tab W → Calls Tryz.prog 48 #[.agg #[.int .u32 5, .string ⟨#[97, 50]⟩, .string cC, .string hC], .string ⟨#[97, 49]⟩, .string ⟨#[48]⟩, .agg #[.int .i64 2, .int .u32 6, .int .u32 5, .int .u64 0, .string ep2, .string ⟨#[]⟩, .string ⟨#[]⟩, .string em, .string ⟨#[]⟩, .string ⟨#[]⟩, .string ⟨#[]⟩, .string ⟨#[48]⟩, .string ⟨#[48]⟩]] W (FinPost 8 ByteArray.empty ByteArray.empty W)) := hide (fun W ht => Finish_at (sd := 5) (tu := 6) P zero_size P.ends.tem (by omega) (by omega) (by omega) (P.other (by decide) (tn_zeroT.mono (by omega))) W ht)
  have KF2 : Hid (∀ W, Tab W → Calls Tryz.prog 48 #[.agg #[.int .u32 5, .string ⟨#[97, 50]⟩, .string cC, .string hC], .string ⟨#[97, 49]⟩, .string ⟨#[97, 57]⟩, .agg #[.int .i64 2, .int .u32 6, .int .u32 5, .int .u64 0, .string ep2, .string ⟨#[]⟩, .string ⟨#[]⟩, .string em, .string ⟨#[]⟩, .string ⟨#[]⟩, .string ⟨#[]⟩, .string ⟨#[48]⟩, .string ⟨#[48]⟩]] W (FinPost 0 kb ka W)) := hide (fun W ht => Finish_at (sd := 5) (tu := 6) P (P.tq.max (by omega)) P.ends.tem (by omega) (by omega) (by omega) P.same W ht)
  unfold BeginPost at KB
  unfold HeaPost at KH
  unfold AnsPost at KA
  unfold FinPost at KF1 KF2
  have hka : (ka.toList == ka.toList) = true := by simp
  have hkb : (kb.toList == kb.toList) = true := by simp
  have HT := hide htab
  clear htab P hpk
  go_enter Tryz.func36, Tryz.ntmps36
  go_upto_region 2 with (go_at_call 38; refine (KB.out _ HT.out).mono ?_; rintro e2 wb ⟨rfl, ho⟩; have HO := hide ho; clear ho KB)
  have HM := hide (Blk.new wb 25 #[.int .i64 1, .int .u32 5, .int .u32 0, .int .u64 0, .string ep, .string sA, .string sB, .string ⟨#[]⟩, .string ⟨#[]⟩, .string ⟨#[]⟩, .string ⟨#[]⟩, .string ⟨#[48]⟩, .string ⟨#[48]⟩])
  have HS := hide (Blk.new (wb.alloc (.cells #[.int .i64 1, .int .u32 5, .int .u32 0, .int .u64 0, .string ep, .string sA, .string sB, .string ⟨#[]⟩, .string ⟨#[]⟩, .string ⟨#[]⟩, .string ⟨#[]⟩, .string ⟨#[48]⟩, .string ⟨#[48]⟩] 25)) 72 #[.int .u32 5, .string ⟨#[97, 50]⟩, .string cC, .string hC])
  replace HO := hide (HO.out.alloc (.cells #[.int .i64 1, .int .u32 5, .int .u32 0, .int .u64 0, .string ep, .string sA, .string sB, .string ⟨#[]⟩, .string ⟨#[]⟩, .string ⟨#[]⟩, .string ⟨#[]⟩, .string ⟨#[48]⟩, .string ⟨#[48]⟩] 25))
  replace HM := hide (HM.out.alloc (.cells #[.int .u32 5, .string ⟨#[97, 50]⟩, .string cC, .string hC] 72))
  replace HO := hide (HO.out.alloc (.cells #[.int .u32 5, .string ⟨#[97, 50]⟩, .string cC, .string hC] 72))
  rw [World.size_alloc] at HS
  generalize ((wb.alloc (.cells #[.int .i64 1, .int .u32 5, .int .u32 0, .int .u64 0, .string ep, .string sA, .string sB, .string ⟨#[]⟩, .string ⟨#[]⟩, .string ⟨#[]⟩, .string ⟨#[]⟩, .string ⟨#[48]⟩, .string ⟨#[48]⟩] 25)).alloc (.cells #[.int .u32 5, .string ⟨#[97, 50]⟩, .string cC, .string hC] 72)) = w2 at *
  obtain ⟨gm, hgm⟩ : ∃ g, g = wb.heap.size := ⟨_, rfl⟩
  rw [← hgm] at HM HS ⊢
  clear hgm
  obtain ⟨a0, a1, a2, a3, a4, a5, a6, a7, a8, a9, a10, a11, a12⟩ := cells13 HM.out
  go_upto_region 3 with (go_at_call 41; refine (KH.out _ (HT.out.only HO.out (by simp))).mono ?_; rintro e2 wh ⟨rfl, ho⟩; replace HM := hon HM ho; replace HS := hon HS ho; replace HO := htr HO ho; clear ho KH a0 a1 a2 a3 a4 a5 a6 a7 a8 a9 a10 a11 a12)
  have HH := hide (Blk.new wh 84 #[.int .u32 5, .string ps, .int .u64 7, .string ep, .string cC, .string hC])
  replace HM := hide (HM.out.alloc (.cells #[.int .u32 5, .string ps, .int .u64 7, .string ep, .string cC, .string hC] 84))
  replace HS := hide (HS.out.alloc (.cells #[.int .u32 5, .string ps, .int .u64 7, .string ep, .string cC, .string hC] 84))
  replace HO := hide (HO.out.alloc (.cells #[.int .u32 5, .string ps, .int .u64 7, .string ep, .string cC, .string hC] 84))
  generalize (wh.alloc (.cells #[.int .u32 5, .string ps, .int .u64 7, .string ep, .string cC, .string hC] 84)) = w3 at *
  obtain ⟨gh, hgh⟩ : ∃ g, g = wh.heap.size := ⟨_, rfl⟩
  rw [← hgh] at HH ⊢
  clear hgh
  clear HM
  obtain ⟨c0, c1, c2, c3, c4, c5⟩ := cells6 HH.out
  go_upto_region 4 with (go_at_call 44; refine (KA.out _ (HT.out.only HO.out (by simp))).mono ?_; rintro e2 wa ⟨rfl, ho⟩; replace HH := hon HH ho; replace HS := hon HS ho; replace HO := htr HO ho; clear ho KA c0 c1 c2 c3 c4 c5)
  have HN := hide (Blk.new wa 25 #[.int .i64 2, .int .u32 6, .int .u32 5, .int .u64 0, .string ep2, .string ⟨#[]⟩, .string ⟨#[]⟩, .string em, .string ⟨#[]⟩, .string ⟨#[]⟩, .string ⟨#[]⟩, .string ⟨#[48]⟩, .string ⟨#[48]⟩])
  have HK := hide (Blk.new (wa.alloc (.cells #[.int .i64 2, .int .u32 6, .int .u32 5, .int .u64 0, .string ep2, .string ⟨#[]⟩, .string ⟨#[]⟩, .string em, .string ⟨#[]⟩, .string ⟨#[]⟩, .string ⟨#[]⟩, .string ⟨#[48]⟩, .string ⟨#[48]⟩] 25)) 43 #[.string ka, .string kb])
  replace HH := hide (HH.out.alloc (.cells #[.int .i64 2, .int .u32 6, .int .u32 5, .int .u64 0, .string ep2, .string ⟨#[]⟩, .string ⟨#[]⟩, .string em, .string ⟨#[]⟩, .string ⟨#[]⟩, .string ⟨#[]⟩, .string ⟨#[48]⟩, .string ⟨#[48]⟩] 25))
  replace HS := hide (HS.out.alloc (.cells #[.int .i64 2, .int .u32 6, .int .u32 5, .int .u64 0, .string ep2, .string ⟨#[]⟩, .string ⟨#[]⟩, .string em, .string ⟨#[]⟩, .string ⟨#[]⟩, .string ⟨#[]⟩, .string ⟨#[48]⟩, .string ⟨#[48]⟩] 25))
  replace HO := hide (HO.out.alloc (.cells #[.int .i64 2, .int .u32 6, .int .u32 5, .int .u64 0, .string ep2, .string ⟨#[]⟩, .string ⟨#[]⟩, .string em, .string ⟨#[]⟩, .string ⟨#[]⟩, .string ⟨#[]⟩, .string ⟨#[48]⟩, .string ⟨#[48]⟩] 25))
  replace HN := hide (HN.out.alloc (.cells #[.string ka, .string kb] 43))
  replace HH := hide (HH.out.alloc (.cells #[.string ka, .string kb] 43))
  replace HS := hide (HS.out.alloc (.cells #[.string ka, .string kb] 43))
  replace HO := hide (HO.out.alloc (.cells #[.string ka, .string kb] 43))
  rw [World.size_alloc] at HK
  generalize ((wa.alloc (.cells #[.int .i64 2, .int .u32 6, .int .u32 5, .int .u64 0, .string ep2, .string ⟨#[]⟩, .string ⟨#[]⟩, .string em, .string ⟨#[]⟩, .string ⟨#[]⟩, .string ⟨#[]⟩, .string ⟨#[48]⟩, .string ⟨#[48]⟩] 25)).alloc (.cells #[.string ka, .string kb] 43)) = w4 at *
  obtain ⟨gn, hgn⟩ : ∃ g, g = wa.heap.size := ⟨_, rfl⟩
  rw [← hgn] at HN HK ⊢
  clear hgn
  obtain ⟨d0, d1, d2, d3, d4, d5, d6, d7, d8, d9, d10, d11, d12⟩ := cells13 HN.out
  obtain ⟨b0, b1, b2, b3⟩ := cells4 HS.out
  go_upto_region 5 with (go_at_call 48; refine (KF1.out _ (HT.out.only HO.out (by simp))).mono ?_; rintro e2 wf ⟨rfl, ho⟩; replace HH := hon HH ho; replace HS := hon HS ho; replace HN := hon HN ho; replace HK := hon HK ho; replace HO := htr HO ho; clear ho KF1 d0 d1 d2 d3 d4 d5 d6 d7 d8 d9 d10 d11 d12 b0 b1 b2 b3)
  have HZ := hide (Blk.new wf 43 #[.string ByteArray.empty, .string ByteArray.empty])
  replace HH := hide (HH.out.alloc (.cells #[.string ByteArray.empty, .string ByteArray.empty] 43))
  replace HS := hide (HS.out.alloc (.cells #[.string ByteArray.empty, .string ByteArray.empty] 43))
  replace HN := hide (HN.out.alloc (.cells #[.string ByteArray.empty, .string ByteArray.empty] 43))
  replace HK := hide (HK.out.alloc (.cells #[.string ByteArray.empty, .string ByteArray.empty] 43))
  replace HO := hide (HO.out.alloc (.cells #[.string ByteArray.empty, .string ByteArray.empty] 43))
  generalize (wf.alloc (.cells #[.string ByteArray.empty, .string ByteArray.empty] 43)) = w5 at *
  obtain ⟨gz, hgz⟩ : ∃ g, g = wf.heap.size := ⟨_, rfl⟩
  rw [← hgz] at HZ ⊢
  clear hgz
  clear HZ
  obtain ⟨d0, d1, d2, d3, d4, d5, d6, d7, d8, d9, d10, d11, d12⟩ := cells13 HN.out
  obtain ⟨b0, b1, b2, b3⟩ := cells4 HS.out
  go_upto_region 6 with (go_at_call 48; refine (KF2.out _ (HT.out.only HO.out (by simp))).mono ?_; rintro e2 wg ⟨rfl, ho⟩; replace HH := hon HH ho; replace HS := hon HS ho; replace HN := hon HN ho; replace HK := hon HK ho; replace HO := htr HO ho; clear ho KF2 d0 d1 d2 d3 d4 d5 d6 d7 d8 d9 d10 d11 d12 b0 b1 b2 b3)
  have HL := hide (Blk.new wg 43 #[.string kb, .string ka])
  replace HH := hide (HH.out.alloc (.cells #[.string kb, .string ka] 43))
  replace HK := hide (HK.out.alloc (.cells #[.string kb, .string ka] 43))
  replace HO := hide (HO.out.alloc (.cells #[.string kb, .string ka] 43))
  generalize (wg.alloc (.cells #[.string kb, .string ka] 43)) = w6 at *
  obtain ⟨gl, hgl⟩ : ∃ g, g = wg.heap.size := ⟨_, rfl⟩
  rw [← hgl] at HL ⊢
  clear hgl
  clear HN HS HT
  obtain ⟨-, c1, -⟩ := cells6 HH.out
  obtain ⟨e0, e1⟩ := cells2 HK.out
  obtain ⟨x0, x1⟩ := cells2 HL.out
  clear HH HK HL
  go_wp2_with fail
  go_ret
  exact ⟨rfl, HO.out⟩
end
end Go.Proofs.YtfipdjlalfpbnaaGreatDoor

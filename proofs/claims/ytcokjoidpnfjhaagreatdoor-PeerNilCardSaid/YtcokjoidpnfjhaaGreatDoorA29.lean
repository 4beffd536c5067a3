/-
  Walks and plain words (texts No5, Nl2). No condition beyond those that each theorem states.
-/
import Derived.Test.YtcokjoidpnfjhaaGreatDoorA26
import Derived.Test.YtcokjoidpnfjhaaGreatDoorA28
namespace Go.Proofs.YtcokjoidpnfjhaaGreatDoor
section
open Go.RowKit Go.Deep

set_option maxRecDepth 100000 in
set_option maxHeartbeats 12800000 in
theorem Begin_any (w : World) (s e tt : ByteArray) (n sd : Nat) (hs : s.size ≤ maxLen) (he : e.size ≤ maxLen) (ht : tt.size ≤ maxLen) (hn : n < 18446744073709551616) (htab : Tab w) :
    Calls Tryz.prog 58 #[.string s, .string e, .string tt, .int .u64 n, .int .u32 sd] w (if (termsB [s, e] && pubsB [tt]) = false then BeginPost 3 #[.int .i64 0, .int .u32 0, .int .u32 0, .int .u64 0, .string ⟨#[]⟩, .string ⟨#[]⟩, .string ⟨#[]⟩, .string ⟨#[]⟩, .string ⟨#[]⟩, .string ⟨#[]⟩, .string ⟨#[]⟩, .string ⟨#[]⟩, .string ⟨#[]⟩] #[.int .u32 0, .string ⟨#[]⟩, .string ⟨#[]⟩, .string ⟨#[]⟩] w else if madeB [(begV s e tt n).eph, (begV s e tt n).sA, (begV s e tt n).sB, (begV s e tt n).c, (begV s e tt n).h] = false then BeginPost 5 #[.int .i64 0, .int .u32 0, .int .u32 0, .int .u64 0, .string ⟨#[]⟩, .string ⟨#[]⟩, .string ⟨#[]⟩, .string ⟨#[]⟩, .string ⟨#[]⟩, .string ⟨#[]⟩, .string ⟨#[]⟩, .string ⟨#[]⟩, .string ⟨#[]⟩] #[.int .u32 0, .string ⟨#[]⟩, .string ⟨#[]⟩, .string ⟨#[]⟩] w else BeginPost 0 #[.int .i64 1, .int .u32 (sd : Nat), .int .u32 0, .int .u64 0, .string (begV s e tt n).eph, .string (begV s e tt n).sA, .string (begV s e tt n).sB, .string ⟨#[]⟩, .string ⟨#[]⟩, .string ⟨#[]⟩, .string ⟨#[]⟩, .string ⟨#[48]⟩, .string ⟨#[48]⟩] #[.int .u32 (sd : Nat), .string e, .string (begV s e tt n).c, .string (begV s e tt n).h] w) := by
  obtain ⟨ep, e_ep⟩ : ∃ x, pubT e = x := ⟨_, rfl⟩
  obtain ⟨cA, e_cA⟩ : ∃ x, begC ep = x := ⟨_, rfl⟩
  obtain ⟨hA, e_hA⟩ : ∃ x, begH tt ep = x := ⟨_, rfl⟩
  obtain ⟨uA, e_uA⟩ : ∃ x, agreeT e tt = x := ⟨_, rfl⟩
  obtain ⟨kA, e_kA⟩ : ∃ x, kdfT 2 cA uA = x := ⟨_, rfl⟩
  obtain ⟨cB, e_cB⟩ : ∃ x, kdfT 1 cA uA = x := ⟨_, rfl⟩
  obtain ⟨ps, e_ps⟩ : ∃ x, pubT s = x := ⟨_, rfl⟩
  obtain ⟨sA, e_sA⟩ : ∃ x, sealN kA ps hA = x := ⟨_, rfl⟩
  obtain ⟨hB, e_hB⟩ : ∃ x, hashT hA sA = x := ⟨_, rfl⟩
  obtain ⟨uB, e_uB⟩ : ∃ x, agreeT s tt = x := ⟨_, rfl⟩
  obtain ⟨kB, e_kB⟩ : ∃ x, kdfT 2 cB uB = x := ⟨_, rfl⟩
  obtain ⟨cC, e_cC⟩ : ∃ x, kdfT 1 cB uB = x := ⟨_, rfl⟩
  obtain ⟨nb, e_nb⟩ : ∃ x, numT n = x := ⟨_, rfl⟩
  obtain ⟨sB, e_sB⟩ : ∃ x, sealN kB nb hB = x := ⟨_, rfl⟩
  obtain ⟨hC, e_hC⟩ : ∃ x, hashT hB sB = x := ⟨_, rfl⟩
  have hbv : begV s e tt n = ⟨ep, sA, sB, cC, hC⟩ := by
    unfold begV
    simp only [e_ep, e_cA, e_hA, e_uA, e_kA, e_cB, e_ps, e_sA, e_hB, e_uB, e_kB, e_cC, e_nb, e_sB, e_hC]
  rw [hbv]
  by_cases hb : (termsB [s, e] && pubsB [tt]) = false
  · rw [if_pos hb]; exact Begin_form w s e tt n sd hs he ht hb
  · rw [if_neg hb]
    have hb2 : (termsB [s, e] && pubsB [tt]) = true := by simpa using hb
    rw [Bool.and_eq_true] at hb2
    by_cases hm : madeB [ep, sA, sB, cC, hC] = false
    · rw [if_pos hm]
      exact Begin_long w s e tt n sd hs he ht hn htab hb2.1 hb2.2 ep cA hA uA kA cB ps sA hB uB kB cC nb sB hC e_ep e_cA e_hA e_uA e_kA e_cB e_ps e_sA e_hB e_uB e_kB e_cC e_nb e_sB e_hC hm
    · rw [if_neg hm]
      have hm2 : madeB [ep, sA, sB, cC, hC] = true := by simpa using hm
      exact Begin_fine w s e tt n sd hs he ht hn htab hb2.1 hb2.2 ep cA hA uA kA cB ps sA hB uB kB cC nb sB hC e_ep e_cA e_hA e_uA e_kA e_cB e_ps e_sA e_hB e_uB e_kB e_cC e_nb e_sB e_hC hm2
end
section
open Go.RowKit Go.Deep

theorem Tn.max {N : Nat} {s : ByteArray} (h : Tn N s) (hN : N ≤ 100000) : s.size ≤ maxLen := Nat.le_trans h.2 (by unfold maxLen; omega)
theorem fine_beg {sd : Nat} {ep sA sB : ByteArray} {a b c : Nat} (hs : sd < 4294967296) (h4 : Tn a ep) (h5 : Tn b sA) (h6 : Tn c sB) (ha : a ≤ 100000) (hb : b ≤ 100000) (hc : c ≤ 100000) : (Mg.mk 1 sd 0 0 ep sA sB ⟨#[]⟩ ⟨#[]⟩ ⟨#[]⟩ ⟨#[]⟩ ⟨#[48]⟩ ⟨#[48]⟩).Fine :=
  ⟨hs, (show 0 < 4294967296 by decide), (show 0 < 18446744073709551616 by decide), h4.max ha, h5.max hb, h6.max hc, Nat.zero_le _, Nat.zero_le _, Nat.zero_le _, Nat.zero_le _, zero_size, zero_size⟩
section
variable {s e r f q : ByteArray} {n sd tu : Nat} {ep cA hA uA kA cB ps sA hB uB kB cC nb sB hC ep2 uA2 uB2 la ke wi em ka kb : ByteArray}
theorem Begin_good (B : BegE s e (pubT r) n ep cA hA uA kA cB ps sA hB uB kB cC nb sB hC) (ts : Tn 200 s) (te : Tn 200 e) (tr : Tn 200 r) (hn : n < 18446744073709551616) (w : World) (htab : Tab w) :
    Calls Tryz.prog 58 #[.string s, .string e, .string (pubT r), .int .u64 n, .int .u32 sd] w (BeginPost 0 #[.int .i64 1, .int .u32 (sd : Nat), .int .u32 0, .int .u64 0, .string ep, .string sA, .string sB, .string ⟨#[]⟩, .string ⟨#[]⟩, .string ⟨#[]⟩, .string ⟨#[]⟩, .string ⟨#[48]⟩, .string ⟨#[48]⟩] #[.int .u32 (sd : Nat), .string e, .string cC, .string hC] w) := by
  have h := Begin_any w s e (pubT r) n sd (ts.max (by omega)) (te.max (by omega)) (pubT_size r) hn htab
  rw [B.is] at h
  have hb : (termsB [s, e] && pubsB [pubT r]) = true := by
    rw [termsB_yes (by intro p hp; simp only [List.mem_cons, List.not_mem_nil, or_false] at hp; rcases hp with rfl | rfl; exact ts.1; exact te.1), pubs_one, pub_kind tr (by omega)]
    rfl
  rw [if_neg (by rw [hb]; decide), if_neg (by rw [begin_made (B.sizes ts te tr hn)]; decide)] at h
  exact h
end
end
end Go.Proofs.YtcokjoidpnfjhaaGreatDoor

/-
  The law NumPrints, by walking. Condition: the library's table of powers of ten reads as it was laid.
-/
import Derived.Test.YtjkgmkkhjpcngaaDoorNlw
namespace Go.Proofs.YtjkgmkkhjpcngaaDoor
open Go.RowKit Go.Deep

set_option maxRecDepth 100000 in
set_option maxHeartbeats 6400000 in
theorem numPrints_walk (u : Nat) (hu64 : u < 18446744073709551616) (v : Value) (l : List UInt8) (w : World) (hv : Rd w [] v (ints .u8 (byts l))) (htab : Tab w) :
    Calls Tryd.prog 4 #[.int .u64 u, v] w (TruePost w) := by
  obtain ⟨A, cap, rfl, hcap, hmx⟩ := hv.formb
  have HV := hide hv
  obtain ⟨n, hn⟩ : ∃ n, n = l.length := ⟨_, rfl⟩
  have HN := hide hn
  rw [← hn] at hcap HV ⊢
  clear hv hn
  by_cases hlen : 500 < n
  · have hl1 : (500 : Int) < n := by omega
    clear hlen
    go_enter Tryd.func4, Tryd.ntmps4
    go_wp2_with (go_at_call 9; refine (awake01 _).mono ?_; rintro e w1 ⟨rfl, ho⟩; have HC := hide ho; clear ho)
    go_ret
    exact true_post rfl HC.out
  have hl1 : ¬ (500 : Int) < n := by omega
  have hll : l.length ≤ 1000000 := by rw [← HN.out]; omega
  obtain ⟨P, hP⟩ : ∃ P : ByteArray, P = ⟨(Lib.decDigits u).toArray⟩ := ⟨_, rfl⟩
  obtain ⟨X, hX⟩ : ∃ X : ByteArray, X = ⟨(hexS l).toArray⟩ := ⟨_, rfl⟩
  have hPl : P.data.toList = Lib.decDigits u := by rw [hP]
  have hXl : X.data.toList = hexS l := by rw [hX]
  have hPs : P.size ≤ 1000000 := by
    have h1 := dec_len u hu64
    rw [← hPl, Array.length_toList] at h1
    have h2 : P.size ≤ 20 := h1
    omega
  have hXs : X.size ≤ 1000000 := by
    have h1 := hexS_length l
    rw [← hXl, Array.length_toList] at h1
    have h2 : X.size = 2 * l.length := h1
    rw [← HN.out] at h2
    omega
  have HT := hide htab
  have F1 := hide (fun W ht => print_back u P hu64 hPl.symm W ht)
  have F2 := hide (fun W => read_is W P hPs u 0 (by rw [hPl]; exact numR_dec u hu64))
  have F3 := hide (fun W N v hv => hex_back W N v l X hv hll hXl.symm)
  have F4 := hide (fun W => readhex_is W X hXs l 0 (by rw [hXl]; exact hexR_hexS l))
  have F5 := hide (fun W => (print_ref u hu64 W).mono (R' := fun e w' => e = .returned (.string P) ∧ Only [] W w') fun e w' h => ⟨by rw [h.1, hP], h.2⟩)
  have F6 := hide (fun W N v hv => (hex_ref W N v l hv hll).mono (R' := fun e w' => e = .returned (.string X) ∧ Only [] W w') fun e w' h => ⟨by rw [h.1, hX], h.2⟩)
  clear hP hX hPl hXl hPs hXs hlen htab hu64 hll
  go_enter Tryd.func4, Tryd.ntmps4
  go_wp2_with (first
    | (go_at_call 9; refine (awake01 _).mono ?_; rintro e w1 ⟨rfl, ho⟩; have HC := hide ho; have HV := hide (HV.out.only ho (by simp)); clear ho)
    | (go_at_call 15; refine (F1.out _ (HT.out.only HC.out (by simp))).mono ?_; rintro e w6 ⟨rfl, ho⟩; have HC := hide (HC.out.trans ho); have HV := hide (HV.out.only ho (by simp)); first | (have HU := hide (HU.out.only ho (by simp))) | skip; clear ho)
    | (go_at_call 10; refine (F2.out _).mono ?_; rintro e w2 ⟨rfl, ho⟩; have HC := hide (HC.out.trans ho); have HV := hide (HV.out.only ho (by simp)); clear ho)
    | (go_at_call 16; refine (F3.out _ _ _ HV.out).mono ?_; rintro e w7 ⟨rfl, ho⟩; have HC := hide (HC.out.trans ho); have HV := hide (HV.out.only ho (by simp)); first | (have HU := hide (HU.out.only ho (by simp))) | skip; clear ho)
    | (go_at_call 12; refine (F4.out _).mono ?_; rintro e w3 ⟨v1, rfl, ho, hv1⟩; have HC := hide (HC.out.trans ho); have HV := hide (HV.out.only ho (by simp)); have HU := hide hv1; clear ho hv1)
    | (go_at_call 17; refine (F5.out _).mono ?_; rintro e w6 ⟨rfl, ho⟩; have HC := hide (HC.out.trans ho); have HV := hide (HV.out.only ho (by simp)); have HU := hide (HU.out.only ho (by simp)); clear ho)
    | (go_at_call 18; refine (F6.out _ _ _ HV.out).mono ?_; rintro e w6 ⟨rfl, ho⟩; have HC := hide (HC.out.trans ho); have HV := hide (HV.out.only ho (by simp)); have HU := hide (HU.out.only ho (by simp)); clear ho)
    | (go_at_call 14; refine (same_is _ _ l _ HV.out HU.out).mono ?_; rintro e w5 ⟨rfl, rfl⟩))
  go_ret
  exact true_post (by first | rfl | simp) HC.out
end Go.Proofs.YtjkgmkkhjpcngaaDoor

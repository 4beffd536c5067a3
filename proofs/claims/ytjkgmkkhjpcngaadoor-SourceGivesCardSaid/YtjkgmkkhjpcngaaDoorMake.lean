/-
  term.Make of an Atom: by walking. Condition: the library's table of powers of ten reads as it was laid.
-/
import Derived.Test.YtjkgmkkhjpcngaaDoorJoin
namespace Go.Proofs.YtjkgmkkhjpcngaaDoor
open Go.RowKit Go.Deep

theorem num_two : numberedV 2 = true := by decide
theorem fits_two : fitsV 2 0 = true := by decide
theorem allow_two (n : Nat) (h : n ≤ 4294967295) : allowedV 2 n = true := by unfold allowedV; rw [if_pos rfl]; exact decide_eq_true (by omega)

set_option maxRecDepth 100000 in
set_option maxHeartbeats 6400000 in
theorem make_atom (n : Nat) (hn : n ≤ 4294967295) (w : World) (htab : Tab w) :
    Calls Tryd.prog 47 #[.int .i64 2, .int .u64 n, .slice none 0 0, .slice none 0 0] w (StrPost (97 :: Lib.decDigits n) w) := by
  have hdl := dec_len n (by omega)
  obtain ⟨P, hP⟩ : ∃ P : ByteArray, P = ⟨(97 :: Lib.decDigits n).toArray⟩ := ⟨_, rfl⟩
  have hPs : P.size ≤ 21 := by
    rw [hP]
    show (97 :: Lib.decDigits n).toArray.size ≤ 21
    simp; omega
  have hPI : ¬ (65536 : Int) < P.size := by omega
  have HT := hide htab
  have hal := allow_two n hn
  have HJ := hide (fun W ht => (join_atom n (by omega) (.slice none 0 0) (.slice none 0 0) W ht).mono (R' := fun e w' => e = .returned (.string P) ∧ Only [] W w') fun e w' h => ⟨by rw [h.1, hP], h.2⟩)
  have HP := hide hP
  clear htab hP hPs hdl
  go_enter Tryd.func47, Tryd.ntmps47
  go_wp2_with (first
    | (go_at_call 54; refine (letter_atom _).mono ?_; rintro e w1 ⟨rfl, ho⟩; have HC := hide ho; clear ho)
    | (go_at_call 55; refine (numbered_any _ _).mono ?_; rintro e w2 ⟨rfl, rfl⟩; rw [num_two])
    | (go_at_call 56; refine (allowed_any _ _ _).mono ?_; rintro e w2 ⟨rfl, rfl⟩; rw [hal])
    | (go_at_call 57; refine (fits_any _ _ _).mono ?_; rintro e w2 ⟨rfl, rfl⟩; rw [fits_two]))
  refine wp_loop_rounds 1 ?_
  rw [rounds_succ]
  go_wp2_with fail
  refine wp_loop_rounds 1 ?_
  rw [rounds_succ]
  go_wp2_with (go_at_call 59; refine (HJ.out _ (HT.out.only HC.out (by simp))).mono ?_; rintro e w3 ⟨rfl, ho⟩; have HC := hide (HC.out.trans ho); clear ho)
  go_ret
  exact ⟨congrArg (fun x => Ending.returned (Value.string x)) HP.out, HC.out⟩
end Go.Proofs.YtjkgmkkhjpcngaaDoor

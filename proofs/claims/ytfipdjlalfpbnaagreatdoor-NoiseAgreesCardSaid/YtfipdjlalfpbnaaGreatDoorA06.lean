/-
  Walks and plain words (texts Ne5). No condition beyond those that each theorem states.
-/
import Derived.Test.YtfipdjlalfpbnaaGreatDoorA02
import Derived.Test.YtfipdjlalfpbnaaGreatDoorA03
import Derived.Test.YtfipdjlalfpbnaaGreatDoorA04
import Derived.Test.YtfipdjlalfpbnaaGreatDoorA05
namespace Go.Proofs.YtfipdjlalfpbnaaGreatDoor
section
open Go.RowKit Go.Deep

theorem ne_law (w : World) (s r e f q o : ByteArray) (sd tu : Nat) (hs : s.size ≤ maxLen) (hr : r.size ≤ maxLen) (he : e.size ≤ maxLen) (hf : f.size ≤ maxLen) (hq : q.size ≤ maxLen) (ho : o.size ≤ maxLen) (hsd : sd < 4294967296) (htu : tu < 4294967296) (htab : Tab w) : Calls Tryz.prog 8 #[.string s, .string r, .string e, .string f, .string q, .string o, .int .u32 sd, .int .u32 tu] w fun e' w' => e' = .returned (.bool true) ∧ Only [] w w' := by
  cases hb : bigB [s, r, e, f, q, o] with
  | true => exact ne_big w s r e f q o sd tu hs hr he hf hq ho hsd htu htab hb
  | false =>
    have hz := big_no hb
    cases h1 : isV s with
    | false => exact ne_s w s r e f q o sd tu hs hr he hf hq ho hsd htu htab hb h1
    | true =>
      cases h2 : isV r with
      | false => exact ne_r w s r e f q o sd tu hs hr he hf hq ho hsd htu htab hb h1 h2
      | true =>
        cases h3 : isV e with
        | false => exact ne_e w s r e f q o sd tu hs hr he hf hq ho hsd htu htab hb h1 h2 h3
        | true =>
          have ts : Tn 200 s := ⟨h1, hz s (by simp)⟩
          have tr : Tn 200 r := ⟨h2, hz r (by simp)⟩
          have te : Tn 200 e := ⟨h3, hz e (by simp)⟩
          cases h4 : isV f with
          | false => exact ne_f w s r e f q o sd tu hs hr he hf hq ho hsd htu htab hb ts tr te h4
          | true =>
            cases h5 : isV q with
            | false => exact ne_q w s r e f q o sd tu hs hr he hf hq ho hsd htu htab hb ts tr te h4 h5
            | true =>
              have tf : Tn 200 f := ⟨h4, hz f (by simp)⟩
              have tq : Tn 200 q := ⟨h5, hz q (by simp)⟩
              obtain ⟨ep, cA, hA, uA, kA, cB, ps, sA, hB, uB, kB, cC, nb, sB, hC, ep2, uA2, uB2, la, ke, wi, em, ka, kb, P⟩ := play_is (n := 3) ts te tr tf tq (by omega)
              cases h6 : isV o with
              | false => exact ne_o1 w s r e f q o sd tu hs hr he hf hq ho hsd htu htab hb P h6 (fin_form (.inr (.inl h6)))
              | true =>
                by_cases h7 : o = q
                · exact ne_o2 w s r e f q o sd tu hs hr he hf hq ho hsd htu htab hb P h6 h7 (by rw [h7]; exact P.same)
                · exact ne_o3 w s r e f q o sd tu hs hr he hf hq ho hsd htu htab hb P h6 h7 (P.other h7 ⟨h6, hz o (by simp)⟩)
theorem noiseAgrees_law (s : ByteArray) (hs : s.size ≤ maxLen) (r : ByteArray) (hr : r.size ≤ maxLen) (e : ByteArray) (he : e.size ≤ maxLen) (f : ByteArray) (hf : f.size ≤ maxLen) (q : ByteArray) (hq : q.size ≤ maxLen) (o : ByteArray) (ho : o.size ≤ maxLen) (sd : Int) (hsd : (Lit.int .u32 sd).wf = true) (tu : Int) (htu : (Lit.int .u32 tu).wf = true) {w : World} (htab : Tab w) :
    Calls Tryz.prog 8 #[.string s, .string r, .string e, .string f, .string q, .string o, .int .u32 sd, .int .u32 tu] w fun e' w' => e' = .returned (.bool true) ∧ Only [] w w' := by
  obtain ⟨a, rfl, ha⟩ := wf_u32 hsd
  obtain ⟨b, rfl, hb⟩ := wf_u32 htu
  exact ne_law w s r e f q o a b hs hr he hf hq ho ha hb htab
end
end Go.Proofs.YtfipdjlalfpbnaaGreatDoor

/-
  The law TermOpens, by walking. Condition: the library's table of powers of ten reads as it was laid.
-/
import Derived.Test.YtfmfnfmhknlpbaaDoorLoxQ
import Derived.Test.YtfmfnfmhknlpbaaDoorLo1Q
import Derived.Test.YtfmfnfmhknlpbaaDoorLo2Q
import Derived.Test.YtfmfnfmhknlpbaaDoorLo3Q
import Derived.Test.YtfmfnfmhknlpbaaDoorLo4Q
namespace Go.Proofs.YtfmfnfmhknlpbaaDoor
open Go.RowKit Go.Deep

theorem mac_two {t : ByteArray} {N : Nat} {B : List UInt8} {L : List ByteArray} (h : whatV t = (9, N, B, L)) : ∃ p q, L = [p, q] := by
  unfold whatV at h
  cases hp : parseV t with
  | none => rw [hp] at h; simp at h
  | some nd =>
    rw [hp, Option.getD_some] at h
    subst h
    have hm := (read_make hp).2.2.2.1
    have hl : L.length = 2 := by
      simp only [fitsV, leastV, mostV] at hm
      simp at hm
      omega
    match L, hl with
    | [a, b], _ => exact ⟨a, b, rfl⟩
theorem termOpens_walk (t : ByteArray) (ht : t.size ≤ maxLen) (key : ByteArray) (hk : key.size ≤ maxLen) (u : ByteArray) (hu : u.size ≤ maxLen) (v : ByteArray) (hv : v.size ≤ maxLen) (n m : Nat) (hn : n < 18446744073709551616) (w : World) (htab : Tab w) :
    Calls Tryd.prog 5 #[.string t, .string key, .string u, .string v, .int .u64 n, .int .u64 m] w fun e w' => e = .returned (.bool true) ∧ Only [] w w' := by
  by_cases h : 1000 < t.size ∨ 1000 < key.size ∨ 1000 < u.size ∨ 1000 < v.size
  · exact opens_long t key u v n m ⟨ht, hk, hu, hv⟩ h w htab
  · obtain ⟨⟨K, N, B, L⟩, hw⟩ : ∃ r, whatV t = r := ⟨_, rfl⟩
    by_cases h9 : K = 9
    · subst h9
      obtain ⟨p, q, rfl⟩ := mac_two hw
      rcases Bool.eq_false_or_eq_true (eqB p key) with hp | hp
      · rcases Bool.eq_false_or_eq_true (eqB q u) with hq | hq
        · exact opens_1 t key u v n m hn (by omega) (by omega) (by omega) (by omega) N B p q hp hq hw w htab
        · exact opens_2 t key u v n m hn (by omega) (by omega) (by omega) (by omega) N B p q hp hq hw w htab
      · rcases Bool.eq_false_or_eq_true (eqB q u) with hq | hq
        · exact opens_3 t key u v n m hn (by omega) (by omega) (by omega) (by omega) N B p q hp hq hw w htab
        · exact opens_4 t key u v n m hn (by omega) (by omega) (by omega) (by omega) N B p q hp hq hw w htab
    · exact opens_x t key u v n m hn (by omega) (by omega) (by omega) (by omega) K (by rw [beq_eq_false_iff_ne]; exact h9) N B L hw w htab
end Go.Proofs.YtfmfnfmhknlpbaaDoor

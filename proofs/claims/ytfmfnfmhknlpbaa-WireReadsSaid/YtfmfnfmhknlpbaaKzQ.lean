/-
  The kind of what is read is none of 0 (plain). No condition.
-/
import Derived.Test.YtfmfnfmhknlpbaaZF
namespace Go.Proofs.Ytfmfnfmhknlpbaa
open Go.RowKit Go.Deep

theorem kindV_pos {c : Int} (h : kindV c ≠ 0) : 1 ≤ kindV c := by
  unfold kindV at h ⊢
  repeat' split
  all_goals first
    | omega
    | (simp_all; done)
theorem end_kind {s : ByteArray} {k : Int} {n : Nat} {l : List ByteArray} {p q : Nat} {nd : Nd} (hk : 1 ≤ k) (h : rdEnd s k n l p = some (nd, q)) : 1 ≤ nd.1 := by
  unfold rdEnd at h
  by_cases h1 : peekV s p 41 = true
  · rw [if_pos h1] at h
    by_cases h2 : fitsV k l.length = true
    · rw [if_pos h2] at h
      obtain ⟨e, _⟩ := Prod.mk.inj (Option.some.inj h)
      subst e
      exact hk
    · rw [if_neg h2] at h; cases h
  · rw [if_neg h1] at h; cases h
theorem leaf_kind {k : Int} {n q q' : Nat} {b : List UInt8} {l : List ByteArray} {nd : Nd} (hk : 1 ≤ k) (h : some (((k, n, b, l) : Nd), q') = some (nd, q)) : 1 ≤ nd.1 := by
  obtain ⟨e, _⟩ := Prod.mk.inj (Option.some.inj h)
  subst e
  exact hk
theorem rd_kind (s : ByteArray) : ∀ (f : Nat) (m : Option (Int × Nat × List ByteArray)) (p : Nat) (nd : Nd) (q : Nat), (∀ x, m = some x → 1 ≤ x.1) → rd s f m p = some (nd, q) → 1 ≤ nd.1 := by
  intro f
  induction f with
  | zero => intro m p nd q _ h; cases m <;> (simp only [rd] at h; cases h)
  | succ f ih =>
    have ih2 : ∀ (k : Int) (n : Nat) (l : List ByteArray) (p : Nat) (nd : Nd) (q : Nat), 1 ≤ k → rd s f (some (k, n, l)) p = some (nd, q) → 1 ≤ nd.1 := fun k n l p nd q hk h => ih _ p nd q (fun x hx => by cases hx; exact hk) h
    intro m p nd q hm h
    cases m with
    | none =>
      rw [rd] at h
      repeat' (split at h)
      all_goals first
        | (cases h; done)
        | exact ih2 _ _ _ _ _ _ (kindV_pos (by assumption)) h
        | exact end_kind (kindV_pos (by assumption)) h
        | exact leaf_kind (kindV_pos (by assumption)) h
        | exact leaf_kind (k := 1) (by omega) h
        | exact leaf_kind (k := 4) (by omega) h
    | some x =>
      obtain ⟨k, n, parts⟩ := x
      have hk : 1 ≤ k := hm _ rfl
      rw [rd] at h
      repeat' (split at h)
      all_goals first
        | (cases h; done)
        | exact ih2 _ _ _ _ _ _ hk h
        | exact end_kind hk h
theorem kind_pos {s : ByteArray} {k : Int} {n : Nat} {b : List UInt8} {l : List ByteArray} (h : parseV s = some (k, n, b, l)) : 1 ≤ k := by
  unfold parseV at h
  split at h
  · cases h
  · split at h
    · cases h
    · rename_i nd q hr
      split at h
      · injection h with h
        have := rd_kind s _ none 0 nd q (by simp) hr
        rw [h] at this
        exact this
      · cases h
end Go.Proofs.Ytfmfnfmhknlpbaa

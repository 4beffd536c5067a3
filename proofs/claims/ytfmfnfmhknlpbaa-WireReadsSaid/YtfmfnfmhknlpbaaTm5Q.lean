/-
  Laws of the plain reader (rd): how far it goes. What the contracts of read and rest say. No condition.
-/
import Derived.Test.YtfmfnfmhknlpbaaTm4Q
import Derived.Test.YtfmfnfmhknlpbaaZA
namespace Go.Proofs.Ytfmfnfmhknlpbaa
open Go.RowKit Go.Deep

theorem rdEnd_bd {s : ByteArray} {k : Int} {n : Nat} {parts : List ByteArray} {p q : Nat} {r : Nd} (h : rdEnd s k n parts p = some (r, q)) : q = p + 1 ∧ q ≤ s.size := by
  unfold rdEnd at h
  split at h
  · rename_i hp
    split at h
    · simp only [Option.some.injEq, Prod.mk.injEq] at h
      refine ⟨h.2.symm, ?_⟩
      unfold peekV at hp
      split at hp
      · omega
      · cases hp
    · cases h
  · cases h
theorem peek_lt {s : ByteArray} {p : Nat} {c : Int} (h : peekV s p c = true) : p < s.size := by
  unfold peekV at h
  split at h
  · assumption
  · cases h
theorem rd_bd (s : ByteArray) : ∀ (f : Nat) (m : Option (Int × Nat × List ByteArray)) (p : Nat) (r : Nd) (q : Nat), rd s f m p = some (r, q) → p < q ∧ q ≤ s.size := by
  intro f
  induction f with
  | zero => intro m p r q h; simp [rd] at h
  | succ f ih =>
    intro m p r q h
    cases m with
    | none =>
      rw [rd] at h
      split at h
      · rename_i hp
        have w1 := wend_ge s (p + 1)
        have w2 := wend_le s (p + 1) (by omega)
        repeat' split at h
        all_goals first
          | (cases h; done)
          | (simp only [Option.some.injEq, Prod.mk.injEq] at h; omega)
          | (have h1 := rdEnd_bd h
             have w3 := wend_ge s (p + 2)
             omega)
          | (have h1 := ih _ _ _ _ h
             have w3 := wend_ge s (p + 2)
             omega)
      · cases h
    | some kp =>
      obtain ⟨k, n, parts⟩ := kp
      rw [rd] at h
      split at h
      · cases h
      · rename_i nd q1 hq
        have h1 := ih _ _ _ _ hq
        split at h
        · cases h
        · split at h
          · have h2 := ih _ _ _ _ h
            omega
          · have h2 := rdEnd_bd h
            omega
theorem rd_some (s : ByteArray) (f : Nat) (k : Int) (n : Nat) (parts : List ByteArray) (p : Nat) : rd s (f + 1) (some (k, n, parts)) p =
    match rd s f none p with
    | none => none
    | some (_, q) =>
      if k = 6 ∧ parts.length = 1 ∧ gtB (parts.getLastD ByteArray.empty) (s.extract p q) = true then none
      else if peekV s q 44 = true then rd s f (some (k, n, parts ++ [s.extract p q])) (q + 1)
      else rdEnd s k n (parts ++ [s.extract p q]) q := rfl
def strs (l : List ByteArray) : List Value := l.map Value.string
theorem strs_snoc (l : List ByteArray) (x : ByteArray) : strs l ++ [.string x] = strs (l ++ [x]) := by simp [strs]
theorem strs_length (l : List ByteArray) : (strs l).length = l.length := by simp [strs]
/-- What read hands back. -/
def ReadPost (g : Nat) (s : ByteArray) (keep : Bool) (r : Option (Nd × Nat)) (w : World) (e : Ending) (w' : World) : Prop :=
  match r with
  | none => Fault [g] w e w'
  | some (nd, q) => ∃ bv pv, e = .returned (.agg #[.int .i64 nd.1, .int .u64 nd.2.1, bv, pv]) ∧ At g s q w' ∧ Only [g] w w' ∧ (∀ N : List Nat, (∀ x ∈ N, x < w.heap.size) → Rd w' N bv (ints .u8 (byts nd.2.2.1))) ∧
      (keep = true → ∀ N : List Nat, (∀ x ∈ N, x < w.heap.size) → Rd w' N pv (strs nd.2.2.2))
/-- The term that is being read lies in block b; its parts so far. -/
def Parts (b : Nat) (k : Int) (n : Nat) (bv : Value) (keep : Bool) (parts : List ByteArray) (w w' : World) : Prop :=
  ∃ A l c, Blk w' b 99 #[.int .i64 k, .int .u64 n, bv, .slice A l c] ∧ (if keep = true then w'.ownsRow w.heap.size 9 1 (.slice A l c) parts.length (strs parts) else A = none ∧ l = 0 ∧ c = 0)
def RestPost (g b : Nat) (s : ByteArray) (bv : Value) (keep : Bool) (r : Option (Nd × Nat)) (w : World) (e : Ending) (w' : World) : Prop :=
  match r with
  | none => Fault [g, b] w e w'
  | some (nd, q) => e = .returned (.tuple #[]) ∧ At g s q w' ∧ Only [g, b] w w' ∧ Parts b nd.1 nd.2.1 bv keep nd.2.2.2 w w'
def TSaid (s : ByteArray) (f : Nat) : Prop := ∀ (w : World) (g p : Nat) (keep : Bool), At g s p w → p ≤ s.size → s.size ≤ 1000000 → 2 * (s.size - p) + 1 ≤ f →
  Calls Try.prog 74 #[.pointer (some ⟨g, 0, none⟩), .bool keep] w (ReadPost g s keep (rd s f none p) w)
def RSaid (s : ByteArray) (f : Nat) : Prop := ∀ (w : World) (g b p : Nat) (k : Int) (n : Nat) (bv : Value) (keep : Bool), At g s p w → g ≠ b → Blk w b 99 #[.int .i64 k, .int .u64 n, bv, .slice none 0 0] → p ≤ s.size → s.size ≤ 1000000 →
  2 * (s.size - p) + 2 ≤ f →
  Calls Try.prog 100 #[.pointer (some ⟨g, 0, none⟩), .pointer (some ⟨b, 0, none⟩), .bool keep] w (RestPost g b s bv keep (if peekV s p 41 = true then rdEnd s k n [] p else rd s f (some (k, n, [])) p) w)
theorem rest_no {g b : Nat} {s : ByteArray} {bv : Value} {keep : Bool} {r : Option (Nd × Nat)} {w w' : World} (h : r = none) (ho : Only [g, b] w w') : RestPost g b s bv keep r w (.panicked [{ v := .iface 116 (.agg #[]), recovered := false }]) w' := by
  subst h; exact ⟨rfl, ho⟩
theorem rest_yes {g b : Nat} {s : ByteArray} {bv : Value} {keep : Bool} {r : Option (Nd × Nat)} {w w' : World} {k : Int} {n q : Nat} {bs : List UInt8} {parts : List ByteArray} (h : r = some ((k, n, bs, parts), q)) (ha : At g s q w') (ho : Only [g, b] w w') (hp : Parts b k n bv keep parts w w') :
    RestPost g b s bv keep r w (.returned (.tuple #[])) w' := by
  subst h; exact ⟨rfl, ha, ho, hp⟩
end Go.Proofs.Ytfmfnfmhknlpbaa

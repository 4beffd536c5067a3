/-
  Walks and plain words (texts Scope, Tm5). No condition beyond those that each theorem states.
-/
import Derived.ScopeJumps
import Derived.Test.YteoifokmbkpbnaaDoorQ03
namespace Go.Proofs.YteoifokmbkpbnaaDoor
section

/-- As Q; by a goto to label l: J l. -/
def jumps (J : Nat → Act → World → Prop) (Q : Exit → Act → World → Prop) : Exit → Act → World → Prop
  | .goto l, a, w => J l a w
  | e, a, w => Q e a w

section
variable {P : Program} {a : Act} {w : World} {Q : Exit → Act → World → Prop}
theorem wp_scope_labels {c : Code} (R : Nat → Code) (J : Nat → Act → World → Prop) (μ : Nat → Act → World → Nat) (hf : ∀ l a w, J l a w → findLabel c l = some (R l))
    (first : c.wp P (jumps J Q) a w)
    (pass : ∀ l a w, J l a w → (R l).wp P (jumps (fun l' a' w' => J l' a' w' ∧ μ l' a' w' < μ l a w) Q) a w) : (Code.scope c).wp P Q a w := by
  intro b k cs
  have hg : ∀ l a w, J l a w → gotoIn l (.inScope c :: k) = some (.code (R l) :: .inScope c :: k) := fun l a w h => by simp [gotoIn, hf l a w h]
  have key : ∀ n l a w, μ l a w = n → J l a w → ∃ e a' w', Q e a' w' ∧ Arrives P (lone (b.at a (.code (R l) :: .inScope c :: k)) cs w) b k cs e a' w' := by
    intro n
    induction n using Nat.strongRecOn with
    | _ n ih =>
      intro l a w hn hJ
      obtain ⟨e, a₁, w₁, hq, harr⟩ := pass l a w hJ b (.inScope c :: k) cs
      cases e with
      | normal => exact ⟨.normal, a₁, w₁, hq, Steps.trans harr (.one step_inScope)⟩
      | exit id => exact ⟨.exit id, a₁, w₁, hq, fun k' hk => harr k' (by simp [exitTo, hk])⟩
      | goto l' =>
        obtain ⟨hJ', hlt⟩ := hq
        obtain ⟨e₂, a₂, w₂, hq₂, harr₂⟩ := ih _ (by omega) l' a₁ w₁ rfl hJ'
        exact ⟨e₂, a₂, w₂, hq₂, .of_steps (harr _ (hg l' a₁ w₁ hJ')) harr₂⟩
      | ret => exact ⟨_, a₁, w₁, hq, harr⟩
      | panic ch => exact ⟨_, a₁, w₁, hq, harr⟩
      | outgrown => exact ⟨_, a₁, w₁, hq, harr⟩
  obtain ⟨e, a₁, w₁, hq, harr⟩ := first b (.inScope c :: k) cs
  cases e with
  | normal => exact ⟨.normal, a₁, w₁, hq, .head step_scope (Steps.trans harr (.one step_inScope))⟩
  | exit id => exact ⟨.exit id, a₁, w₁, hq, fun k' hk => .head step_scope (harr k' (by simp [exitTo, hk]))⟩
  | goto l' =>
    have hJ' : J l' a₁ w₁ := hq
    obtain ⟨e₂, a₂, w₂, hq₂, harr₂⟩ := key _ l' a₁ w₁ rfl hJ'
    exact ⟨e₂, a₂, w₂, hq₂, .of_steps (.head step_scope (harr _ (hg l' a₁ w₁ hJ'))) harr₂⟩
  | ret => exact ⟨_, a₁, w₁, hq, .of_steps (.one step_scope) harr⟩
  | panic ch => exact ⟨_, a₁, w₁, hq, .of_steps (.one step_scope) harr⟩
  | outgrown => exact ⟨_, a₁, w₁, hq, .of_steps (.one step_scope) harr⟩
/-- Two labels, 0 and 1. -/
def two (J0 J1 : Act → World → Prop) : Nat → Act → World → Prop
  | 0 => J0
  | 1 => J1
  | _ => fun _ _ => False
def two' (M0 M1 : Act → World → Nat) : Nat → Act → World → Nat
  | 0 => M0
  | _ => M1
def two'' (R0 R1 : Code) : Nat → Code
  | 0 => R0
  | _ => R1
theorem wp_mono {c : Code} {Q' : Exit → Act → World → Prop} (h : c.wp P Q a w) (hq : ∀ e a w, Q e a w → Q' e a w) : c.wp P Q' a w := by
  intro b k cs
  obtain ⟨e, a', w', h1, h2⟩ := h b k cs
  exact ⟨e, a', w', hq _ _ _ h1, h2⟩
theorem wp_skipped {c : Code} (h : c.wp P Q a w) : (Code.skip.seq c).wp P Q a w := wp_seq (wp_skip h)
/-- Both labels' rests are proved once: the way to label 1, and label 1's own rest, may fall through to them. -/
theorem wp_scope_two {c R0 R1 : Code} (J0 J1 : Act → World → Prop) (M1 : Act → World → Nat) (h0 : findLabel c 0 = some (Code.skip.seq R0)) (h1 : findLabel c 1 = some (Code.skip.seq R1))
    (first : (∀ J a w, J0 a w → R0.wp P (jumps J Q) a w) → (∀ a w, J1 a w → R1.wp P (jumps (two J0 J1) Q) a w) → c.wp P (jumps (two J0 J1) Q) a w)
    (pass0 : ∀ a w, J0 a w → R0.wp P (jumps (fun _ _ _ => False) Q) a w)
    (pass1 : (∀ J a w, J0 a w → R0.wp P (jumps J Q) a w) → ∀ a w, J1 a w → R1.wp P (jumps (fun l' a' w' => two J0 J1 l' a' w' ∧ two' (fun _ _ => 0) M1 l' a' w' < M1 a w) Q) a w) : (Code.scope c).wp P Q a w := by
  have p0 : ∀ J a w, J0 a w → R0.wp P (jumps J Q) a w := fun J a w h => wp_mono (pass0 a w h) fun e a' w' hq => by
    cases e <;> first | exact hq | exact hq.elim
  refine wp_scope_labels (two'' (Code.skip.seq R0) (Code.skip.seq R1)) (two J0 J1) (two' (fun _ _ => 0) M1) ?_ (first p0 fun a w h => wp_mono (pass1 p0 a w h) fun e a' w' hq => ?_) ?_
  · rintro (_ | _ | l) a w h
    · exact h0
    · exact h1
    · cases h
  · cases e <;> first | exact hq | exact hq.1
  · rintro (_ | _ | l) a w h
    · exact wp_skipped (p0 _ a w h)
    · exact wp_skipped (pass1 p0 a w h)
    · cases h
end
/-- A frame of n slots, as its slots. -/
theorem act_frame (n : Nat) (a : Act) (hs : a.tmps.size = n) (hd : a.defers = []) : a = ⟨((List.range n).map fun i => a.tmps.getD i undef).toArray, []⟩ := by
  obtain ⟨t, d⟩ := a
  simp only at hs hd
  subst hd
  congr 1
  apply Array.ext
  · simp [hs]
  · intro i h1 h2
    simp at h2
    simp [Array.getD_eq_getD_getElem?, Array.getElem?_eq_getElem h1]
end
section
open Go.RowKit Go.Deep

theorem rdEnd_bd {s : ByteArray} {k : Int} {n : Nat} {parts : List ByteArray} {p q : Nat} {r : Nd} (h : rdEnd s k n parts p = some (r, q)) : q = p + 1 ∧ q ≤ s.size := by
  unfold rdEnd at h
  split at h
  · rename_i hp
    split at h
    · simp only [Option.some.injEq, Prod.mk.injEq] at h
      refine ⟨h.2.symm, ?_⟩
      unfold peekV at hp
      split at hp
      · omega
      · cases hp
    · cases h
  · cases h
theorem peek_lt {s : ByteArray} {p : Nat} {c : Int} (h : peekV s p c = true) : p < s.size := by
  unfold peekV at h
  split at h
  · assumption
  · cases h
theorem rd_bd (s : ByteArray) : ∀ (f : Nat) (m : Option (Int × Nat × List ByteArray)) (p : Nat) (r : Nd) (q : Nat), rd s f m p = some (r, q) → p < q ∧ q ≤ s.size := by
  intro f
  induction f with
  | zero => intro m p r q h; simp [rd] at h
  | succ f ih =>
    intro m p r q h
    cases m with
    | none =>
      rw [rd] at h
      split at h
      · rename_i hp
        have w1 := wend_ge s (p + 1)
        have w2 := wend_le s (p + 1) (by omega)
        repeat' split at h
        all_goals first
          | (cases h; done)
          | (simp only [Option.some.injEq, Prod.mk.injEq] at h; omega)
          | (have h1 := rdEnd_bd h
             have w3 := wend_ge s (p + 2)
             omega)
          | (have h1 := ih _ _ _ _ h
             have w3 := wend_ge s (p + 2)
             omega)
      · cases h
    | some kp =>
      obtain ⟨k, n, parts⟩ := kp
      rw [rd] at h
      split at h
      · cases h
      · rename_i nd q1 hq
        have h1 := ih _ _ _ _ hq
        split at h
        · cases h
        · split at h
          · have h2 := ih _ _ _ _ h
            omega
          · have h2 := rdEnd_bd h
            omega
theorem rd_some (s : ByteArray) (f : Nat) (k : Int) (n : Nat) (parts : List ByteArray) (p : Nat) : rd s (f + 1) (some (k, n, parts)) p =
    match rd s f none p with
    | none => none
    | some (_, q) =>
      if k = 6 ∧ parts.length = 1 ∧ gtB (parts.getLastD ByteArray.empty) (s.extract p q) = true then none
      else if peekV s q 44 = true then rd s f (some (k, n, parts ++ [s.extract p q])) (q + 1)
      else rdEnd s k n (parts ++ [s.extract p q]) q := rfl
def strs (l : List ByteArray) : List Value := l.map Value.string
theorem strs_snoc (l : List ByteArray) (x : ByteArray) : strs l ++ [.string x] = strs (l ++ [x]) := by simp [strs]
theorem strs_length (l : List ByteArray) : (strs l).length = l.length := by simp [strs]
/-- What read hands back. -/
def ReadPost (g : Nat) (s : ByteArray) (keep : Bool) (r : Option (Nd × Nat)) (w : World) (e : Ending) (w' : World) : Prop :=
  match r with
  | none => Fault [g] w e w'
  | some (nd, q) => ∃ bv pv, e = .returned (.agg #[.int .i64 nd.1, .int .u64 nd.2.1, bv, pv]) ∧ At g s q w' ∧ Only [g] w w' ∧ (∀ N : List Nat, (∀ x ∈ N, x < w.heap.size) → Rd w' N bv (ints .u8 (byts nd.2.2.1))) ∧
      (keep = true → ∀ N : List Nat, (∀ x ∈ N, x < w.heap.size) → Rd w' N pv (strs nd.2.2.2))
/-- The term that is being read lies in block b; its parts so far. -/
def Parts (b : Nat) (k : Int) (n : Nat) (bv : Value) (keep : Bool) (parts : List ByteArray) (w w' : World) : Prop :=
  ∃ A l c, Blk w' b 130 #[.int .i64 k, .int .u64 n, bv, .slice A l c] ∧ (if keep = true then w'.ownsRow w.heap.size 9 1 (.slice A l c) parts.length (strs parts) else A = none ∧ l = 0 ∧ c = 0)
def RestPost (g b : Nat) (s : ByteArray) (bv : Value) (keep : Bool) (r : Option (Nd × Nat)) (w : World) (e : Ending) (w' : World) : Prop :=
  match r with
  | none => Fault [g, b] w e w'
  | some (nd, q) => e = .returned (.tuple #[]) ∧ At g s q w' ∧ Only [g, b] w w' ∧ Parts b nd.1 nd.2.1 bv keep nd.2.2.2 w w'
def TSaid (s : ByteArray) (f : Nat) : Prop := ∀ (w : World) (g p : Nat) (keep : Bool), At g s p w → p ≤ s.size → s.size ≤ 1000000 → 2 * (s.size - p) + 1 ≤ f →
  Calls Tryd.prog 112 #[.pointer (some ⟨g, 0, none⟩), .bool keep] w (ReadPost g s keep (rd s f none p) w)
def RSaid (s : ByteArray) (f : Nat) : Prop := ∀ (w : World) (g b p : Nat) (k : Int) (n : Nat) (bv : Value) (keep : Bool), At g s p w → g ≠ b → Blk w b 130 #[.int .i64 k, .int .u64 n, bv, .slice none 0 0] → p ≤ s.size → s.size ≤ 1000000 →
  2 * (s.size - p) + 2 ≤ f →
  Calls Tryd.prog 128 #[.pointer (some ⟨g, 0, none⟩), .pointer (some ⟨b, 0, none⟩), .bool keep] w (RestPost g b s bv keep (if peekV s p 41 = true then rdEnd s k n [] p else rd s f (some (k, n, [])) p) w)
theorem rest_no {g b : Nat} {s : ByteArray} {bv : Value} {keep : Bool} {r : Option (Nd × Nat)} {w w' : World} (h : r = none) (ho : Only [g, b] w w') : RestPost g b s bv keep r w (.panicked [{ v := .iface 159 (.agg #[]), recovered := false }]) w' := by
  subst h; exact ⟨rfl, ho⟩
theorem rest_yes {g b : Nat} {s : ByteArray} {bv : Value} {keep : Bool} {r : Option (Nd × Nat)} {w w' : World} {k : Int} {n q : Nat} {bs : List UInt8} {parts : List ByteArray} (h : r = some ((k, n, bs, parts), q)) (ha : At g s q w') (ho : Only [g, b] w w') (hp : Parts b k n bv keep parts w w') :
    RestPost g b s bv keep r w (.returned (.tuple #[])) w' := by
  subst h; exact ⟨rfl, ha, ho, hp⟩
end
end Go.Proofs.YteoifokmbkpbnaaDoor

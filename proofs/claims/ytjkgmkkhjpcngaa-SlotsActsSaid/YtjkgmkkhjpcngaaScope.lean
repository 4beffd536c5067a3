/-
  A scope with several labels: what holds at each jump, and a measure that every pass lowers (after the library's law for one label). A plain theorem on the walk. No condition.
-/
import Derived.ScopeJumps
namespace Go.Proofs.Ytjkgmkkhjpcngaa

/-- As Q; by a goto to label l: J l. -/
def jumps (J : Nat → Act → World → Prop) (Q : Exit → Act → World → Prop) : Exit → Act → World → Prop
  | .goto l, a, w => J l a w
  | e, a, w => Q e a w

section
variable {P : Program} {a : Act} {w : World} {Q : Exit → Act → World → Prop}
theorem wp_scope_labels {c : Code} (R : Nat → Code) (J : Nat → Act → World → Prop) (μ : Nat → Act → World → Nat) (hf : ∀ l a w, J l a w → findLabel c l = some (R l))
    (first : c.wp P (jumps J Q) a w)
    (pass : ∀ l a w, J l a w → (R l).wp P (jumps (fun l' a' w' => J l' a' w' ∧ μ l' a' w' < μ l a w) Q) a w) : (Code.scope c).wp P Q a w := by
  intro b k cs
  have hg : ∀ l a w, J l a w → gotoIn l (.inScope c :: k) = some (.code (R l) :: .inScope c :: k) := fun l a w h => by simp [gotoIn, hf l a w h]
  have key : ∀ n l a w, μ l a w = n → J l a w → ∃ e a' w', Q e a' w' ∧ Arrives P (lone (b.at a (.code (R l) :: .inScope c :: k)) cs w) b k cs e a' w' := by
    intro n
    induction n using Nat.strongRecOn with
    | _ n ih =>
      intro l a w hn hJ
      obtain ⟨e, a₁, w₁, hq, harr⟩ := pass l a w hJ b (.inScope c :: k) cs
      cases e with
      | normal => exact ⟨.normal, a₁, w₁, hq, Steps.trans harr (.one step_inScope)⟩
      | exit id => exact ⟨.exit id, a₁, w₁, hq, fun k' hk => harr k' (by simp [exitTo, hk])⟩
      | goto l' =>
        obtain ⟨hJ', hlt⟩ := hq
        obtain ⟨e₂, a₂, w₂, hq₂, harr₂⟩ := ih _ (by omega) l' a₁ w₁ rfl hJ'
        exact ⟨e₂, a₂, w₂, hq₂, .of_steps (harr _ (hg l' a₁ w₁ hJ')) harr₂⟩
      | ret => exact ⟨_, a₁, w₁, hq, harr⟩
      | panic ch => exact ⟨_, a₁, w₁, hq, harr⟩
      | outgrown => exact ⟨_, a₁, w₁, hq, harr⟩
  obtain ⟨e, a₁, w₁, hq, harr⟩ := first b (.inScope c :: k) cs
  cases e with
  | normal => exact ⟨.normal, a₁, w₁, hq, .head step_scope (Steps.trans harr (.one step_inScope))⟩
  | exit id => exact ⟨.exit id, a₁, w₁, hq, fun k' hk => .head step_scope (harr k' (by simp [exitTo, hk]))⟩
  | goto l' =>
    have hJ' : J l' a₁ w₁ := hq
    obtain ⟨e₂, a₂, w₂, hq₂, harr₂⟩ := key _ l' a₁ w₁ rfl hJ'
    exact ⟨e₂, a₂, w₂, hq₂, .of_steps (.head step_scope (harr _ (hg l' a₁ w₁ hJ'))) harr₂⟩
  | ret => exact ⟨_, a₁, w₁, hq, .of_steps (.one step_scope) harr⟩
  | panic ch => exact ⟨_, a₁, w₁, hq, .of_steps (.one step_scope) harr⟩
  | outgrown => exact ⟨_, a₁, w₁, hq, .of_steps (.one step_scope) harr⟩
/-- Two labels, 0 and 1. -/
def two (J0 J1 : Act → World → Prop) : Nat → Act → World → Prop
  | 0 => J0
  | 1 => J1
  | _ => fun _ _ => False
def two' (M0 M1 : Act → World → Nat) : Nat → Act → World → Nat
  | 0 => M0
  | _ => M1
def two'' (R0 R1 : Code) : Nat → Code
  | 0 => R0
  | _ => R1
theorem wp_mono {c : Code} {Q' : Exit → Act → World → Prop} (h : c.wp P Q a w) (hq : ∀ e a w, Q e a w → Q' e a w) : c.wp P Q' a w := by
  intro b k cs
  obtain ⟨e, a', w', h1, h2⟩ := h b k cs
  exact ⟨e, a', w', hq _ _ _ h1, h2⟩
theorem wp_skipped {c : Code} (h : c.wp P Q a w) : (Code.skip.seq c).wp P Q a w := wp_seq (wp_skip h)
/-- Both labels' rests are proved once: the way to label 1, and label 1's own rest, may fall through to them. -/
theorem wp_scope_two {c R0 R1 : Code} (J0 J1 : Act → World → Prop) (M1 : Act → World → Nat) (h0 : findLabel c 0 = some (Code.skip.seq R0)) (h1 : findLabel c 1 = some (Code.skip.seq R1))
    (first : (∀ J a w, J0 a w → R0.wp P (jumps J Q) a w) → (∀ a w, J1 a w → R1.wp P (jumps (two J0 J1) Q) a w) → c.wp P (jumps (two J0 J1) Q) a w)
    (pass0 : ∀ a w, J0 a w → R0.wp P (jumps (fun _ _ _ => False) Q) a w)
    (pass1 : (∀ J a w, J0 a w → R0.wp P (jumps J Q) a w) → ∀ a w, J1 a w → R1.wp P (jumps (fun l' a' w' => two J0 J1 l' a' w' ∧ two' (fun _ _ => 0) M1 l' a' w' < M1 a w) Q) a w) : (Code.scope c).wp P Q a w := by
  have p0 : ∀ J a w, J0 a w → R0.wp P (jumps J Q) a w := fun J a w h => wp_mono (pass0 a w h) fun e a' w' hq => by
    cases e <;> first | exact hq | exact hq.elim
  refine wp_scope_labels (two'' (Code.skip.seq R0) (Code.skip.seq R1)) (two J0 J1) (two' (fun _ _ => 0) M1) ?_ (first p0 fun a w h => wp_mono (pass1 p0 a w h) fun e a' w' hq => ?_) ?_
  · rintro (_ | _ | l) a w h
    · exact h0
    · exact h1
    · cases h
  · cases e <;> first | exact hq | exact hq.1
  · rintro (_ | _ | l) a w h
    · exact wp_skipped (p0 _ a w h)
    · exact wp_skipped (pass1 p0 a w h)
    · cases h
end
/-- A frame of n slots, as its slots. -/
theorem act_frame (n : Nat) (a : Act) (hs : a.tmps.size = n) (hd : a.defers = []) : a = ⟨((List.range n).map fun i => a.tmps.getD i undef).toArray, []⟩ := by
  obtain ⟨t, d⟩ := a
  simp only at hs hd
  subst hd
  congr 1
  apply Array.ext
  · simp [hs]
  · intro i h1 h2
    simp at h2
    simp [Array.getD_eq_getD_getElem?, Array.getElem?_eq_getElem h1]
end Go.Proofs.Ytjkgmkkhjpcngaa

/-
  Walks and plain words (texts Mem, Rf, App, Sl). No condition beyond those that each theorem states.
-/
import Derived.WalkKit
import Derived.WalkSpells
import Derived.ProofKit
import Derived.Below
import Derived.Laws.OwnMore
import Derived.Laws.Rows
import Derived.Deep.Draws
import Derived.Deep.QuietTactic
import Derived.Laws.IdiomCopy
import Derived.BigQuiet
import Derived.RegionTactic
import Derived.BigRegion
import Derived.Outline
import Derived.Deep.RegionHeld3
import Derived.Deep.DeepFit
import Derived.Deep.DeepMust
import Derived.WalkLawsBesides
import Derived.Laws.BitsAllLaws
import Derived.Laws.BitsLemmas
import Derived.Deep.OwnRows
import Derived.Deep.RegionWith
import Derived.Deep.RegionLaw
import Derived.Deep.DeepCutAuto
import Derived.Deep.CutBlock
import Derived.Deep.AppendLies
import Derived.Maps.AppendAt
import Derived.ScopeJumps
import Derived.OwnWalk
import Derived.Lib.SliceRun
import Derived.Laws.BytesString
import Derived.Laws.IdiomStrings
import Derived.Lib.BufferRead
import Derived.RangeFuncNested
import Derived.RangeFuncBound
import Derived.RangeFuncCalls
import Derived.RangeFuncLeaves
import Derived.Shelf.Abstract
import Derived.Shelf.RegionOpen
import Derived.OwnWalkIn
import Derived.TacticsInMore
import Derived.LoopNIn
import Derived.LoopIn
namespace Go.Proofs.YthecnaclfhfilaaDoor
section
open Go.RowKit

theorem hide {p : Prop} (h : p) : Hid p := h
def Blk (w : World) (g : Nat) (t : TypeId) (cs : Array Value) : Prop := w.heap[g]? = some (.cells cs t (0, 0))

section
variable {w w' : World} {g : Nat} {t : TypeId} {cs : Array Value}
theorem Blk.lt (h : Blk w g t cs) : g < w.heap.size := by
  rcases Nat.lt_or_ge g w.heap.size with hlt | hge
  · exact hlt
  · unfold Blk at h; rw [Array.getElem?_eq_none hge] at h; cases h
theorem Blk.cell (h : Blk w g t cs) (i : Nat) : w.cell? ⟨g, i, none⟩ = cs[i]? := cell_of_row w g i cs t (0, 0) h
theorem Blk.frozen (h : Blk w g t cs) (i : Nat) : w.frozen? ⟨g, i, none⟩ = false := by
  unfold Blk at h
  simp [World.frozen?, h]
theorem Blk.new (w : World) (t : TypeId) (cs : Array Value) : Blk (w.alloc (.cells cs t)) w.heap.size t cs := heap_alloc_new w _
theorem Blk.drew (h : Blk w g t cs) : Blk w.drew g t cs := h
theorem Blk.drewN (h : Blk w g t cs) (n : Nat) : Blk (w.drewN n) g t cs := h
theorem Blk.alloc (h : Blk w g t cs) (o : Obj) : Blk (w.alloc o) g t cs := (Below.heap_alloc w o g h.lt).trans h
theorem Blk.set_ (h : Blk w g t cs) (i : Nat) (u : Value) : Blk (w.setCell ⟨g, i, none⟩ u) g t (cs.setIfInBounds i u) := by
  unfold Blk at h ⊢
  simp [World.setCell, Array.getElem?_modify, h]
theorem Blk.far (h : Blk w g t cs) {p : Addr} (hp : g ≠ p.block) (u : Value) : Blk (w.setCell p u) g t cs := (Below.heap_setCell w p u g hp).trans h
theorem Blk.below {B : Nat} (h : Blk w g t cs) (hb : Below B w w') (hg : g < B) : Blk w' g t cs := (hb.block g hg).trans h
theorem Blk.grown {row : Option Nat} (h : Blk w g t cs) (hb : w.grownBy w' row) (hg : some g ≠ row) : Blk w' g t cs := (hb.block g h.lt hg).trans h
end

/-- Of the blocks that were there, none but those of S has turned. -/
structure Only (S : List Nat) (w w' : World) : Prop where
  os : w'.os = w.os
  tape : w'.tape = w.tape
  output : w'.output = w.output
  size : w.heap.size ≤ w'.heap.size
  block : ∀ k, k < w.heap.size → k ∉ S → w'.heap[k]? = w.heap[k]?

section
variable {S : List Nat} {a b w w' : World}
theorem Only.refl (S : List Nat) (w : World) : Only S w w := ⟨rfl, rfl, rfl, Nat.le_refl _, fun _ _ _ => rfl⟩
theorem Only.trans (h : Only S a b) (k : Only S b w) : Only S a w :=
  ⟨k.os.trans h.os, k.tape.trans h.tape, k.output.trans h.output, Nat.le_trans h.size k.size, fun i hi hn => (k.block i (Nat.lt_of_lt_of_le hi h.size) hn).trans (h.block i hi hn)⟩
theorem Only.mono {S' : List Nat} (h : Only S a b) (hs : ∀ x ∈ S, x ∈ S' ∨ a.heap.size ≤ x) : Only S' a b :=
  ⟨h.os, h.tape, h.output, h.size, fun i hi hn => h.block i hi (fun hx => (hs i hx).elim hn (by omega))⟩
theorem Only.drew (h : Only S a w) : Only S a w.drew := ⟨h.os, h.tape, h.output, h.size, h.block⟩
theorem Only.drewN (h : Only S a w) (n : Nat) : Only S a (w.drewN n) := ⟨h.os, h.tape, h.output, h.size, h.block⟩
theorem Only.alloc (h : Only S a w) (o : Obj) : Only S a (w.alloc o) :=
  ⟨h.os, h.tape, h.output, Nat.le_trans h.size (by simp), fun i hi hn => (Below.heap_alloc w o i (Nat.lt_of_lt_of_le hi h.size)).trans (h.block i hi hn)⟩
theorem Only.setCell (h : Only S a w) {p : Addr} (hp : p.block ∈ S ∨ a.heap.size ≤ p.block) (u : Value) : Only S a (w.setCell p u) :=
  ⟨h.os, h.tape, h.output, by simpa [World.setCell] using h.size, fun i hi hn => (Below.heap_setCell w p u i (by
    rintro rfl
    rcases hp with hp | hp
    · exact hn hp
    · omega)).trans (h.block i hi hn)⟩
theorem Only.grown (h : Only S a w) {row : Option Nat} (hg : w.grownBy w' row) (hr : ∀ k, row = some k → k ∈ S ∨ a.heap.size ≤ k) : Only S a w' :=
  ⟨hg.os.trans h.os, hg.tape.trans h.tape, hg.output.trans h.output, Nat.le_trans h.size hg.size, fun i hi hn => (hg.block i (Nat.lt_of_lt_of_le hi h.size) (fun e => by
    rcases hr i e.symm with hx | hx
    · exact hn hx
    · omega)).trans (h.block i hi hn)⟩
theorem Only.below {B : Nat} (h : Only S a w) (hs : ∀ x ∈ S, B ≤ x) (hB : B ≤ a.heap.size) : Below B a w :=
  ⟨h.os, h.tape, h.output, h.size, fun i hi => h.block i (by omega) (fun hx => by have := hs i hx; omega)⟩
theorem Blk.only {g : Nat} {t : TypeId} {cs : Array Value} (h : Blk a g t cs) (ho : Only S a w) (hg : g ∉ S) : Blk w g t cs := (ho.block g h.lt hg).trans h
end

/-- Cells written one behind the other. -/
def wr (cs : Array Value) : Nat → List Value → Array Value
  | _, [] => cs
  | o, v :: r => wr (cs.setIfInBounds o v) (o + 1) r
end
section
open Go.RowKit

/-- What it says stays, if none but blocks of T turn. -/
def Stab {β : Type} (T : List Nat) (J : β → World → Prop) : Prop := ∀ s A B, J s A → Only T A B → J s B
/-- Cells that are not the iterator's own are kept. -/
def keepC (Pv : List Nat) (A B : World) : Prop := ∀ (k : Nat) (o : Obj), k ∉ Pv → A.heap[k]? = some o → o.isCells = true → B.heap[k]? = some o
theorem keepC_only {S Pv : List Nat} {A B : World} (h : Only S A B) (hS : ∀ x ∈ S, x ∈ Pv) : keepC Pv A B := fun k _ hk hA _ => (h.block k (Array.getElem?_eq_some_iff.1 hA).1 (fun hx => hk (hS k hx))).trans hA
theorem keepC_put {Pv : List Nat} {A : World} {l : Nat} {R : Loop} (h : A.heap[l]? = some (.loop R)) (o' : Obj) : keepC Pv A (A.putObj l o') := fun k o _ hA hc => by
  refine (World.putObj_heap_other ?_).trans hA
  intro e
  subst e
  rw [h] at hA
  injection hA with hA
  subst hA
  cases hc
/-- What the caller says stays: of cells that are not the iterator's none turns; D, D + 1: the loop's two blocks. -/
def StabN {β : Type} (D : Nat) (Pv : List Nat) (J : β → World → Prop) : Prop := ∀ s A B, J s A → Only (D :: (D + 1) :: Pv) A B → keepC Pv A B → J s B
theorem only_put (W : World) (l : Nat) (o : Obj) : Only [l] W (W.putObj l o) :=
  ⟨rfl, rfl, rfl, by simp [World.putObj], fun k _ hk => World.putObj_heap_other (by intro e; subst e; simp at hk)⟩
/-- An iterator's contract: it gives the elements of S one by one; Sp: what may have come so far; Kp: what a round that goes on keeps; At: how its boxes stand when it is called. -/
def SeqP {α : Type} (n : Nat) (P : Program) (g : Nat) (lb : Array Value) (encs : α → Array Value) (Kp : World → World → Prop) (S Sp : List α → Prop) (Pv : List Nat) (At : World → Prop) : Prop :=
  ∀ (l : Nat) (J Jx : List α → World → Prop) (W : World), Stab Pv J → Stab Pv Jx →
    (∀ pre x W1, J pre W1 → Sp (pre ++ [x]) → YieldAt Fence.wide (n - 1) P l (encs x) W1 fun e W' => (e = .returned (.bool true) ∧ J (pre ++ [x]) W' ∧ Kp W1 W') ∨ (e = .returned (.bool false) ∧ Jx (pre ++ [x]) W')) →
    J [] W → At W → CallsIn Fence.wide n P g (#[.func (.yield l) #[] #[]] ++ lb) W fun e W' => (∃ v, e = .returned v) ∧ ((∃ xs, S xs ∧ J xs W') ∨ (∃ pre, Sp pre ∧ Jx pre W'))
/-- How a round may be left. D, D + 1: the loop's two blocks. -/
def roundOut {α : Type} (D : Nat) (Kp : World → World → Prop) (I : List α → World → Prop) (Ix : Code → List α → World → Prop) (xs : List α) (W : World) : Exit → Act → World → Prop
  | .normal, _, W' => (W'.heap[D]? = W.heap[D]? ∧ W'.heap[D + 1]? = W.heap[D + 1]?) ∧ Kp W W' ∧ I xs W'
  | .ret, _, W' => (W'.heap[D]? = W.heap[D]? ∧ W'.heap[D + 1]? = W.heap[D + 1]?) ∧ Ix .ret xs W'
  | .exit id, _, W' => (W'.heap[D]? = W.heap[D]? ∧ W'.heap[D + 1]? = W.heap[D + 1]?) ∧ Ix (.exit id) xs W'
  | .goto t, _, W' => (W'.heap[D]? = W.heap[D]? ∧ W'.heap[D + 1]? = W.heap[D + 1]?) ∧ Ix (.goto t) xs W'
  | .panic _, _, _ => False
  | .outgrown, _, _ => False

section
variable {P : Program}
theorem end_round {α : Type} {D : Nat} {R : Loop} {I : List α → World → Prop} {Ix : Code → List α → World → Prop} (W3 : World) (jump : Option Code) (h : W3.heap[D + 1]? = some (.loop R)) :
    (Instr.endRound (D + 1) jump).run P W3 = .ok (.bool jump.isNone) (W3.putObj (D + 1) (.loop { R with state := if jump.isNone then .ready else .done, pending := jump })) ∧
    (W3.putObj (D + 1) (.loop { R with state := if jump.isNone then .ready else .done, pending := jump })).heap[D + 1]? = some (.loop { R with state := if jump.isNone then .ready else .done, pending := jump }) :=
  ⟨run_endRound jump h, World.putObj_heap_same (Array.getElem?_eq_some_iff.1 h).1⟩
theorem range_priv {α : Type} {n : Nat} {g : Operand} {ps : Array Tmp} {assign body : Code} {Q : Exit → Act → World → Prop} {a : Act} {w : World} {gf : Nat} {lb : Array Value} (hg : a.eval g = .func (.func gf) #[] lb)
    (eg : ∀ args w, (callFunc gf args).run P w = .ok (.enter gf args) w) {encs : α → Array Value} {Kp : World → World → Prop} {S Sp : List α → Prop} {Pv : List Nat} {At : World → Prop}
    (hseq : SeqP (n - 1) P gf lb encs Kp S Sp Pv At) (hPv : ∀ k ∈ Pv, k < w.heap.size) (hAt : ∀ W, Only [] w W → At W) (hps : ∀ x, (encs x).size = ps.size)
    (hKt : ∀ {A B C : World}, Kp A B → Kp B C → Kp A C) (hKb : ∀ (W : World) (l : Nat) (o : Obj), w.heap.size ≤ l → Kp W (W.putObj l o))
    (I : List α → World → Prop) (Ix : Code → List α → World → Prop) (hI : StabN w.heap.size Pv I) (hIx : ∀ c, StabN w.heap.size Pv (Ix c)) (h0 : I [] w) (a₁ : α → Act)
    (hassign : ∀ (x : α) (W : World) (K : Act → World → Prop), K (a₁ x) W →
      assign.wpIn (Fence.wide.inRound (w.heap.size + 1)) (n - 1 - 1) P (Exit.then K (fun _ _ _ => False)) { tmps := (ps.zip (encs x)).foldl (fun t (p, v) => t.setIfInBounds p v) a.tmps, defers := [] } W)
    (hbody : ∀ (pre : List α) (x : α) (W : World), I pre W → Sp (pre ++ [x]) → W.heap[w.heap.size]? = some (.deferred (some [])) → (∃ R, W.heap[w.heap.size + 1]? = some (.loop R)) → body.wpIn (Fence.wide.inRound (w.heap.size + 1)) (n - 1 - 1) P (roundOut w.heap.size Kp I Ix (pre ++ [x]) W) (a₁ x) W)
    (hdone : ∀ (xs : List α) (W : World), S xs → I xs W → W.heap[w.heap.size]? = some (.deferred (some [])) → Q .normal { a with defers := { target := .collected w.heap.size, args := #[] } :: a.defers } W)
    (hstop : ∀ (c : Code) (pre : List α) (W : World), Sp pre → Ix c pre W → W.heap[w.heap.size]? = some (.deferred (some [])) → c.wpIn Fence.wide n P Q { a with defers := { target := .collected w.heap.size, args := #[] } :: a.defers } W) :
    (Code.rangeFunc g ps assign body).wpIn Fence.wide n P Q a w := by
  refine wpIn_rangeFunc fun fn _ => ?_
  obtain ⟨D, hD⟩ : ∃ D, D = w.heap.size := ⟨_, rfl⟩
  obtain ⟨R, hR⟩ : ∃ R : Loop, R = { state := .ready, pending := none, fn, tmps := a.tmps, params := ps, assign, body, defers := D } := ⟨_, rfl⟩
  have hRs : R.state = .ready := by rw [hR]
  have hRf : R.fn = fn ∧ R.tmps = a.tmps ∧ R.params = ps ∧ R.assign = assign ∧ R.body = body := by rw [hR]; exact ⟨rfl, rfl, rfl, rfl, rfl⟩
  obtain ⟨W0, hW0⟩ : ∃ W0, W0 = (w.alloc (.deferred (some []))).alloc (.loop R) := ⟨_, rfl⟩
  have hl0 : W0.heap[D + 1]? = some (.loop R) := by
    have := World.alloc_heap_new (w.alloc (.deferred (some []))) (.loop R)
    rw [World.size_alloc] at this
    rw [hW0, hD]; exact this
  have hd0 : W0.heap[D]? = some (.deferred (some [])) := by
    rw [hW0, hD]
    exact (Below.heap_alloc _ _ _ (by simp)).trans (World.alloc_heap_new w _)
  have ho0 : Only [] w W0 := by rw [hW0]; exact ((Only.refl [] w).alloc _).alloc _
  rw [← hD] at hI hIx hbody hdone hstop hKb hPv hassign
  have hT : ∀ {A B : World}, Only Pv A B → Only (D :: (D + 1) :: Pv) A B := fun h => h.mono (fun x hx => .inl (by simp [hx]))
  have hT0 : ∀ {A B : World}, Only [] A B → Only (D :: (D + 1) :: Pv) A B := fun h => h.mono (by simp)
  have hT1 : ∀ {A B : World}, Only [D + 1] A B → Only (D :: (D + 1) :: Pv) A B := fun h => h.mono (fun x hx => .inl (by simp at hx; simp [hx]))
  have hnD : D ∉ Pv ∧ D + 1 ∉ Pv := ⟨fun h => absurd (hPv _ h) (Nat.lt_irrefl _), fun h => absurd (hPv _ h) (by omega)⟩
  refine ⟨D + 1, [{ target := .collected D, args := #[] }], W0, { target := .fn (.func gf) lb, args := #[.func (.yield (D + 1)) #[] #[]] }, W0, gf, #[.func (.yield (D + 1)) #[] #[]] ++ lb, W0, ?_, ?_, fun _ _ => trivial, ?_, (fun h => absurd h (by decide)), ?_⟩
  · rw [hW0, hR, hD]; exact run_enterLoop_outer _ _ _ _ _
  · simp only [resolve, hg]
    simp [go_sem]
  · simp [invoke, go_sem, eg]
  · refine (hseq (D + 1) (fun pre W => I pre W ∧ W.heap[D + 1]? = some (.loop R) ∧ W.heap[D]? = some (.deferred (some [])))
      (fun pre W => ∃ c, Ix c pre W ∧ W.heap[D + 1]? = some (.loop { R with state := .done, pending := some c }) ∧ W.heap[D]? = some (.deferred (some []))) W0 ?_ ?_ ?_ ⟨hI _ _ _ h0 (hT0 ho0) (keepC_only ho0 (by simp)), hl0, hd0⟩ (hAt _ ho0)).mono ?_
    · intro s A B hs ho
      exact ⟨hI _ _ _ hs.1 (hT ho) (keepC_only ho (fun _ h => h)), (ho.block _ (Array.getElem?_eq_some_iff.1 hs.2.1).1 hnD.2).trans hs.2.1, (ho.block _ (Array.getElem?_eq_some_iff.1 hs.2.2).1 hnD.1).trans hs.2.2⟩
    · intro s A B hs ho
      obtain ⟨c, h1, h2, h3⟩ := hs
      exact ⟨c, hIx c _ _ _ h1 (hT ho) (keepC_only ho (fun _ h => h)), (ho.block _ (Array.getElem?_eq_some_iff.1 h2).1 hnD.2).trans h2, (ho.block _ (Array.getElem?_eq_some_iff.1 h3).1 hnD.1).trans h3⟩
    · rintro pre x W ⟨hi, hl, hd⟩ hsp
      have hy := run_yield (P := P) (args := encs x) hl (by rw [hRf.2.2.1]; exact hps x)
      rw [hRf.1, hRf.2.1, hRf.2.2.1, hRf.2.2.2.1, hRf.2.2.2.2] at hy
      refine ⟨fn, _, assign, body, hy, roundIn_of_wpIn trivial (hassign x W _ ⟨_, run_beginRound hl hRs, ?_⟩)⟩
      have hlt : D + 1 < W.heap.size := (Array.getElem?_eq_some_iff.1 hl).1
      obtain ⟨W1, hW1⟩ : ∃ W1, W1 = W.putObj (D + 1) (.loop { R with state := .busy }) := ⟨_, rfl⟩
      have hl1 : W1.heap[D + 1]? = some (.loop { R with state := .busy }) := by rw [hW1]; exact World.putObj_heap_same hlt
      have ho1 : Only [D + 1] W W1 := by rw [hW1]; exact only_put _ _ _
      have hd1 : W1.heap[D]? = some (.deferred (some [])) := (ho1.block D (by omega) (by simp)).trans hd
      have hk1 : Kp W W1 := by rw [hW1]; exact hKb _ _ _ (by omega)
      rw [← hW1]
      refine wpIn_mono (hbody pre x W1 (hI _ _ _ hi (hT1 ho1) (by rw [hW1]; exact keepC_put hl _)) hsp hd1 ⟨_, hl1⟩) ?_
      have back : ∀ W3 : World, (W3.heap[D]? = W1.heap[D]? ∧ W3.heap[D + 1]? = W1.heap[D + 1]?) → W3.heap[D]? = some (.deferred (some [])) ∧ W3.heap[D + 1]? = some (.loop { R with state := .busy }) := fun W3 h => ⟨h.1.trans hd1, h.2.trans hl1⟩
      have hr : ∀ (j : Option Code), ({ { R with state := .busy } with state := if j.isNone then .ready else .done, pending := j } : Loop) = { R with state := if j.isNone then .ready else .done, pending := j } := fun j => rfl
      rintro e a3 W3 hp
      cases e with
      | normal =>
        obtain ⟨hb, hk, hi3⟩ := hp
        obtain ⟨hd3, hl3⟩ := back W3 hb
        obtain ⟨h1, h2⟩ := end_round (P := P) (I := I) (Ix := Ix) W3 none hl3
        refine ⟨_, _, h1, .inl ⟨rfl, ⟨hI _ _ _ hi3 (hT1 (only_put _ _ _)) (keepC_put hl3 _), ?_, ((only_put W3 (D + 1) _).block D (Array.getElem?_eq_some_iff.1 hd3).1 (by simp)).trans hd3⟩, hKt (hKt hk1 hk) (hKb _ _ _ (by omega))⟩⟩
        rw [h2, hR]
        rfl
      | ret =>
        obtain ⟨hb, hi3⟩ := hp
        obtain ⟨hd3, hl3⟩ := back W3 hb
        obtain ⟨h1, h2⟩ := end_round (P := P) (I := I) (Ix := Ix) W3 (some .ret) hl3
        exact ⟨_, _, h1, .inr ⟨rfl, .ret, hIx _ _ _ _ hi3 (hT1 (only_put _ _ _)) (keepC_put hl3 _), h2, ((only_put W3 (D + 1) _).block D (Array.getElem?_eq_some_iff.1 hd3).1 (by simp)).trans hd3⟩⟩
      | exit id =>
        obtain ⟨hb, hi3⟩ := hp
        obtain ⟨hd3, hl3⟩ := back W3 hb
        obtain ⟨h1, h2⟩ := end_round (P := P) (I := I) (Ix := Ix) W3 (some (.exit id)) hl3
        exact ⟨_, _, h1, .inr ⟨rfl, .exit id, hIx _ _ _ _ hi3 (hT1 (only_put _ _ _)) (keepC_put hl3 _), h2, ((only_put W3 (D + 1) _).block D (Array.getElem?_eq_some_iff.1 hd3).1 (by simp)).trans hd3⟩⟩
      | goto t =>
        obtain ⟨hb, hi3⟩ := hp
        obtain ⟨hd3, hl3⟩ := back W3 hb
        obtain ⟨h1, h2⟩ := end_round (P := P) (I := I) (Ix := Ix) W3 (some (.goto t)) hl3
        exact ⟨_, _, h1, .inr ⟨rfl, .goto t, hIx _ _ _ _ hi3 (hT1 (only_put _ _ _)) (keepC_put hl3 _), h2, ((only_put W3 (D + 1) _).block D (Array.getElem?_eq_some_iff.1 hd3).1 (by simp)).trans hd3⟩⟩
      | panic ch => exact hp.elim
      | outgrown => exact hp.elim
    · rintro e W2 ⟨⟨v, rfl⟩, (⟨xs, hS, hi, hl, hd⟩ | ⟨pre, hSp, c, hi, hl, hd⟩)⟩
      · have h := run_endLoop (P := P) hl (by rw [hRs]; simp)
        rw [show R.pending = none by rw [hR]] at h
        exact ⟨none, _, h, hdone xs _ hS (hI _ _ _ hi (hT1 (only_put _ _ _)) (keepC_put hl _)) (((only_put W2 (D + 1) _).block D (Array.getElem?_eq_some_iff.1 hd).1 (by simp)).trans hd)⟩
      · exact ⟨some c, _, run_endLoop (P := P) hl (by simp), hstop c pre _ hSp (hIx c _ _ _ hi (hT1 (only_put _ _ _)) (keepC_put hl _)) (((only_put W2 (D + 1) _).block D (Array.getElem?_eq_some_iff.1 hd).1 (by simp)).trans hd)⟩
end
end
section
open Go.RowKit

theorem block_of_add (a : Addr) (n : Nat) : (a.add n).block = a.block := by unfold Addr.add; split <;> rfl
def Reads (w : World) (B size : Nat) (A : Option Addr) (n : Nat) (xs : List Value) : Prop :=
  xs.length = n * size ∧ (0 < n → ∃ ad, A = some ad ∧ ad.block < B ∧ ∀ j u, xs[j]? = some u → w.cell? (ad.add j) = some u)

section
variable {w w' : World} {B B' size n : Nat} {A : Option Addr} {xs : List Value}
theorem Reads.at_ {k : Nat} (h : Reads w B 1 A n xs) (hk : k < n) : ∃ ad u, A = some ad ∧ ad.block < B ∧ xs[k]? = some u ∧ w.cell? (ad.add k) = some u := by
  obtain ⟨ad, e, hb, hc⟩ := h.2 (by omega)
  have hl : k < xs.length := by have := h.1; omega
  exact ⟨ad, xs[k], e, hb, List.getElem?_eq_getElem hl, hc k _ (List.getElem?_eq_getElem hl)⟩
theorem Reads.keep (h : Reads w B size A n xs) (hk : ∀ p : Addr, p.block < B → w'.cell? p = w.cell? p) : Reads w' B size A n xs :=
  ⟨h.1, fun hn => by
    obtain ⟨ad, e, hb, hc⟩ := h.2 hn
    exact ⟨ad, e, hb, fun j u hu => (hk _ (by rw [block_of_add]; exact hb)).trans (hc j u hu)⟩⟩
theorem Reads.below (h : Reads w B size A n xs) (hb : Below B w w') : Reads w' B size A n xs := h.keep fun _ hp => hb.cell hp
theorem Reads.drew (h : Reads w B size A n xs) : Reads w.drew B size A n xs := h
theorem Reads.drewN (h : Reads w B size A n xs) (k : Nat) : Reads (w.drewN k) B size A n xs := h
theorem Reads.alloc (h : Reads w B size A n xs) (hB : B ≤ w.heap.size) (o : Obj) : Reads (w.alloc o) B size A n xs := h.keep fun p hp => World.cell?_alloc_lt w o p (by omega)
theorem Reads.setCell (h : Reads w B size A n xs) {p : Addr} (hB : B ≤ p.block) (u : Value) : Reads (w.setCell p u) B size A n xs :=
  h.keep fun q hq => World.cell?_setCell_other w p q u (fun e => by subst e; omega)
theorem Reads.grown (h : Reads w B size A n xs) {row : Option Nat} (hg : w.grownBy w' row) (hB : B ≤ w.heap.size) (hr : ∀ g, row = some g → B ≤ g) : Reads w' B size A n xs :=
  h.keep fun p hp => World.cell?_of_block (hg.block p.block (by omega) (fun e => by have := hr _ e.symm; omega))
theorem Reads.of_own {base : Nat} {e : TypeId} {c : Nat} (h : w.ownsRow base e size (.slice A n c) n xs) : Reads w w.heap.size size A n xs := by
  refine ⟨h.1, fun hn => ?_⟩
  obtain ⟨g, cap, hv, _, hlt⟩ := h.form hn
  have hA : A = some ⟨g, 0, none⟩ := by injection hv
  subst hA
  exact ⟨_, rfl, hlt, h.cells (g := g) rfl⟩
end

section
variable {P : Program} (w : World)

theorem run_append_of_nil (base : Nat) (t ty e : TypeId) (i : TypeInfo) (size : Nat) (ht : P.underlying t = some (.slice e)) (hi : P.info? e = some i)
    (v : Value) (n : Nat) (xs : List Value) (hown : w.ownsRow base e size v n xs) (c : Nat) : (Builtin.append_ #[t, t] ty #[v, .slice none 0 c]).run P w = .ok v w := by
  rcases hown.2 with ⟨rfl, rfl⟩ | ⟨g, cap, cur, rfl, _, _, hnc, _⟩
  · simp [Builtin.append_, run_underlying ht, sizeOf, typeInfo, hi, Builtin.lenOf, Builtin.firstCells]
  · simp [Builtin.append_, run_underlying ht, sizeOf, typeInfo, hi, Builtin.lenOf, Builtin.firstCells, hnc, storeCells]

theorem run_append_any (base : Nat) (t ty e : TypeId) (i : TypeInfo) (z : Value) (size bytes : Nat) (ht : P.underlying t = some (.slice e)) (hi : P.info? e = some i) (hz : i.zero = some z)
    (hsize : i.size = size) (hby : i.bytes = bytes) (hzs : z.cells.size = size) (hsz : 0 < size)
    (v : Value) (n : Nat) (xs : List Value) (hown : w.ownsRow base e size v n xs)
    (B : Nat) (A : Option Addr) (m c : Nat) (news : List Value) (hr : Reads w B size A m news) (h1 : ∀ u ∈ news, u.oneCell' = true)
    (h63 : n + m ≤ maxLen) (hbytes : (n + m) * bytes ≤ 140737488355328) (hbase : base ≤ w.heap.size) :
    ∃ v' w', (Builtin.append_ #[t, t] ty #[v, .slice A m c]).run P w = .ok v' w' ∧ w'.ownsRow base e size v' (n + m) (xs ++ news) ∧ w.grownBy w' v.ownBlock ∧
      (v'.ownBlock = v.ownBlock ∨ v'.ownBlock = some w.heap.size) := by
  rcases A with _ | ad
  · have hm : m = 0 := by
      rcases Nat.eq_zero_or_pos m with h0 | h0
      · exact h0
      · obtain ⟨ad, h, _⟩ := hr.2 h0
        cases h
    subst hm
    have hn : news = [] := List.eq_nil_of_length_eq_zero (by simpa using hr.1)
    subst hn
    exact ⟨v, w, run_append_of_nil w base t ty e i size ht hi v n xs hown c, by simpa using hown, World.grownBy.refl w _, .inl rfl⟩
  · have hcells : ∀ j u, news[j]? = some u → w.cell? (ad.add j) = some u := by
      intro j u hu
      rcases Nat.eq_zero_or_pos m with h0 | h0
      · subst h0
        have hn : news = [] := List.eq_nil_of_length_eq_zero (by simpa using hr.1)
        subst hn
        simp at hu
      · obtain ⟨ad', h, _, hc⟩ := hr.2 h0
        injection h with h
        subst h
        exact hc j u hu
    obtain ⟨v', w', hrun, h2, h3, _, h5⟩ := run_append_own_at (P := P) w base t ty e i z size bytes ht hi hz hsize hby hzs hsz v n xs hown ad m c news hr.1 hcells h1 h63 hbytes hbase
    exact ⟨v', w', hrun, h2, h3, h5⟩

theorem wp_append_any {o : Oper} {a : Act} {K : Act → World → Prop} {Q : Exit → Act → World → Prop} (s x : Operand) (t : TypeId)
    (ho : o.op = .call { callee := .builtin .append, args := #[s, x], argTypes := #[t, t] })
    (base : Nat) (e : TypeId) (i : TypeInfo) (z : Value) (size bytes : Nat) (ht : P.underlying t = some (.slice e)) (hi : P.info? e = some i) (hz : i.zero = some z)
    (hsize : i.size = size) (hby : i.bytes = bytes) (hzs : z.cells.size = size) (hsz : 0 < size)
    (v : Value) (n : Nat) (xs : List Value) (hs : a.eval s = v) (hown : w.ownsRow base e size v n xs)
    (B : Nat) (A : Option Addr) (m c : Nat) (news : List Value) (hx : a.eval x = .slice A m c) (hr : Reads w B size A m news) (h1 : ∀ u ∈ news, u.oneCell' = true)
    (h63 : n + m ≤ maxLen) (hbytes : (n + m) * bytes ≤ 140737488355328) (hbase : base ≤ w.heap.size)
    (h : ∀ v' w', w'.ownsRow base e size v' (n + m) (xs ++ news) → w.grownBy w' v.ownBlock → (v'.ownBlock = v.ownBlock ∨ v'.ownBlock = some w.heap.size) → K (a.put o.dst v') w') : o.wp P a w K Q := by
  obtain ⟨v', w', hrun, h2, h3, h4⟩ := run_append_any (P := P) w base t o.type e i z size bytes ht hi hz hsize hby hzs hsz v n xs hown B A m c news hr h1 h63 hbytes hbase
  unfold Oper.wp execOp
  simp only [ho, resolve, invoke, builtin, Sem.run_bind, Sem.run_pure, Result.andThen_ok, List.map_toArray, List.map_cons, List.map_nil, hs, hx, hrun]
  exact h v' w' h2 h3 h4

theorem wpList_append_any {ops : Array Oper} {rest : List Oper} {o : Oper} {a : Act} {Q : Exit → Act → World → Prop} (hgd : o.guard = none) (s x : Operand) (t : TypeId)
    (ho : o.op = .call { callee := .builtin .append, args := #[s, x], argTypes := #[t, t] })
    (base : Nat) (e : TypeId) (i : TypeInfo) (z : Value) (size bytes : Nat) (ht : P.underlying t = some (.slice e)) (hi : P.info? e = some i) (hz : i.zero = some z)
    (hsize : i.size = size) (hby : i.bytes = bytes) (hzs : z.cells.size = size) (hsz : 0 < size)
    (v : Value) (n : Nat) (xs : List Value) (hs : a.eval s = v) (hown : w.ownsRow base e size v n xs)
    (B : Nat) (A : Option Addr) (m c : Nat) (news : List Value) (hx : a.eval x = .slice A m c) (hr : Reads w B size A m news) (h1 : ∀ u ∈ news, u.oneCell' = true)
    (h63 : n + m ≤ maxLen) (hbytes : (n + m) * bytes ≤ 140737488355328) (hbase : base ≤ w.heap.size)
    (h : ∀ v' w', w'.ownsRow base e size v' (n + m) (xs ++ news) → w.grownBy w' v.ownBlock → (v'.ownBlock = v.ownBlock ∨ v'.ownBlock = some w.heap.size) → wpList P ops Q rest (a.put o.dst v') w') : wpList P ops Q (o :: rest) a w :=
  wpList_plain hgd fun _ hK => wp_append_any w s x t ho base e i z size bytes ht hi hz hsize hby hzs hsz v n xs hs hown B A m c news hx hr h1 h63 hbytes hbase fun v' w' h2 h3 h4 => hK _ _ (h v' w' h2 h3 h4)

theorem step_append_any {ops : Array Oper} {o : Oper} {a : Act} {K : Act → World → Prop} {Q : Exit → Act → World → Prop} {E : Prop} (hgd : o.guard = none) (s x : Operand) (t : TypeId)
    (ho : o.op = .call { callee := .builtin .append, args := #[s, x], argTypes := #[t, t] })
    (base : Nat) (e : TypeId) (i : TypeInfo) (z : Value) (size bytes : Nat) (ht : P.underlying t = some (.slice e)) (hi : P.info? e = some i) (hz : i.zero = some z)
    (hsize : i.size = size) (hby : i.bytes = bytes) (hzs : z.cells.size = size) (hsz : 0 < size)
    (v : Value) (n : Nat) (xs : List Value) (hs : a.eval s = v) (hown : w.ownsRow base e size v n xs)
    (B : Nat) (A : Option Addr) (m c : Nat) (news : List Value) (hx : a.eval x = .slice A m c) (hr : Reads w B size A m news) (h1 : ∀ u ∈ news, u.oneCell' = true)
    (h63 : n + m ≤ maxLen) (hbytes : (n + m) * bytes ≤ 140737488355328) (hbase : base ≤ w.heap.size)
    (h : ∀ v' w', w'.ownsRow base e size v' (n + m) (xs ++ news) → w.grownBy w' v.ownBlock → (v'.ownBlock = v.ownBlock ∨ v'.ownBlock = some w.heap.size) → K (a.put o.dst v') w') :
    if Region.wanted o (yielded ops a.tmps) = true then Oper.wp P o a w K Q else E := by
  have hw : Region.wanted o (yielded ops a.tmps) = true := by simp [Region.wanted, hgd]
  rw [if_pos hw]
  exact wp_append_any w s x t ho base e i z size bytes ht hi hz hsize hby hzs hsz v n xs hs hown B A m c news hx hr h1 h63 hbytes hbase h
end
end
section
open Go.RowKit

def Rd (w : World) (N : List Nat) (v : Value) (xs : List Value) : Prop :=
  ∃ (A : Option Addr) (cap : Nat), v = .slice A xs.length cap ∧ xs.length ≤ cap ∧ cap ≤ maxLen ∧
    (xs = [] ∨ ∃ g o, A = some ⟨g, o, none⟩ ∧ g ∉ N ∧ g < w.heap.size ∧ ∀ i x, xs[i]? = some x → w.cell? ⟨g, o + i, none⟩ = some x)

theorem add_mk (g o i : Nat) : (⟨g, o, none⟩ : Addr).add i = ⟨g, o + i, none⟩ := by
  unfold Addr.add
  split <;> simp_all

theorem cell_only {S : List Nat} {w w' : World} (ho : Only S w w') {a : Addr} (hb : a.block < w.heap.size) (hs : a.block ∉ S) : w'.cell? a = w.cell? a :=
  World.cell?_of_block (ho.block a.block hb hs)
section
variable {w w' : World} {N S : List Nat} {v : Value} {xs : List Value}
theorem Rd.nil (w : World) (N : List Nat) : Rd w N (.slice none 0 0) [] := ⟨none, 0, rfl, Nat.le_refl _, Nat.zero_le _, .inl rfl⟩
theorem Rd.only (h : Rd w N v xs) (ho : Only S w w') (hs : ∀ x ∈ S, x ∈ N) : Rd w' N v xs := by
  obtain ⟨A, cap, hv, hc, hm, h⟩ := h
  refine ⟨A, cap, hv, hc, hm, ?_⟩
  rcases h with h | ⟨g, o, hA, hg, hl, hcell⟩
  · exact .inl h
  · exact .inr ⟨g, o, hA, hg, Nat.lt_of_lt_of_le hl ho.size, fun i x hx => (cell_only ho hl (fun hh => hg (hs _ hh))).trans (hcell i x hx)⟩
theorem Rd.less {N' : List Nat} (h : Rd w N v xs) (hs : ∀ x ∈ N', x ∈ N) : Rd w N' v xs := by
  obtain ⟨A, cap, hv, hc, hm, h⟩ := h
  refine ⟨A, cap, hv, hc, hm, ?_⟩
  rcases h with h | ⟨g, o, hA, hg, hl, hcell⟩
  · exact .inl h
  · exact .inr ⟨g, o, hA, fun hh => hg (hs _ hh), hl, hcell⟩
theorem Rd.of_own {base e n : Nat} (h : w.ownsRow base e 1 v n xs) (hN : ∀ x ∈ N, x < base) : Rd w N v xs ∧ xs.length = n := by
  obtain ⟨h1, h2⟩ := h
  rw [Nat.mul_one] at h1
  refine ⟨?_, h1⟩
  rcases h2 with ⟨rfl, rfl⟩ | ⟨g, cap, cur, rfl, hg, hh, hnc, hm, hs, hx⟩
  · rw [List.length_eq_zero_iff] at h1
    subst h1
    exact Rd.nil w N
  · refine ⟨_, cap, by rw [h1], by omega, hm, .inr ⟨g, 0, rfl, fun hh => by have := hN g hh; omega, Blk.lt (t := e) (cs := cur) hh, fun i x hxi => ?_⟩⟩
    rw [Nat.zero_add, Blk.cell (t := e) (cs := cur) hh]
    rw [← hx, List.getElem?_take] at hxi
    split at hxi
    · simpa using hxi
    · cases hxi
theorem Rd.at_ {A : Option Addr} {n cap : Nat} (h : Rd w N (.slice A n cap) xs) : n = xs.length ∧ n ≤ cap ∧ cap ≤ maxLen ∧
    (∀ k x, xs[k]? = some x → ∃ g o, A = some ⟨g, o, none⟩ ∧ g ∉ N ∧ g < w.heap.size ∧ w.cell? ⟨g, o + k, none⟩ = some x) := by
  obtain ⟨A', cap', hv, hc, hm, h⟩ := h
  injection hv with h1 h2 h3
  subst h1 h2 h3
  refine ⟨rfl, hc, hm, fun k x hx => ?_⟩
  rcases h with h | ⟨g, o, hA, hg, hl, hcell⟩
  · subst h; simp at hx
  · exact ⟨g, o, hA, hg, hl, hcell k x hx⟩
theorem Rd.form (h : Rd w N v xs) : ∃ A cap, v = .slice A xs.length cap ∧ xs.length ≤ cap ∧ cap ≤ maxLen := by
  obtain ⟨A, cap, hv, hc, hm, _⟩ := h
  exact ⟨A, cap, hv, hc, hm⟩
theorem Rd.reads {A : Option Addr} {n cap : Nat} (h : Rd w N (.slice A n cap) xs) : Reads w w.heap.size 1 A n xs := by
  obtain ⟨h1, _, _, h2⟩ := h.at_
  refine ⟨by omega, fun hn => ?_⟩
  obtain ⟨g, o, hA, _, hl, _⟩ := h2 0 xs[0] (List.getElem?_eq_getElem (by omega))
  refine ⟨⟨g, o, none⟩, hA, hl, fun j u hu => ?_⟩
  obtain ⟨g', o', hA', _, _, hc⟩ := h2 j u hu
  rw [hA] at hA'
  injection hA' with hA'
  injection hA' with e1 e2
  subst e1 e2
  rw [add_mk]
  exact hc
/-- 's[1:]' -/
theorem Rd.tail {A : Option Addr} {n cap : Nat} {x : Value} (h : Rd w N (.slice A n cap) (x :: xs)) :
    ∃ g o, A = some ⟨g, o, none⟩ ∧ n = xs.length + 1 ∧ n ≤ cap ∧ w.cell? ⟨g, o, none⟩ = some x ∧ Rd w N (.slice (if cap = 1 then some ⟨g, o, none⟩ else some ⟨g, o + 1, none⟩) (n - 1) (cap - 1)) xs := by
  obtain ⟨h1, h2, h3, h4⟩ := h.at_
  obtain ⟨g, o, rfl, hg, hl, hc⟩ := h4 0 x rfl
  refine ⟨g, o, rfl, by simpa using h1, h2, hc, ?_⟩
  simp at h1
  refine ⟨(if cap = 1 then some ⟨g, o, none⟩ else some ⟨g, o + 1, none⟩), cap - 1, by rw [h1]; rfl, by omega, by omega, ?_⟩
  by_cases hx : xs = []
  · exact .inl hx
  · have : 0 < xs.length := List.length_pos_iff.2 hx
    refine .inr ⟨g, o + 1, by rw [if_neg (by omega)], hg, hl, fun i y hy => ?_⟩
    obtain ⟨g', o', hA', _, _, hc'⟩ := h4 (i + 1) y (by simpa using hy)
    injection hA' with hA'
    injection hA' with e1 e2
    subst e1 e2
    rw [Nat.add_assoc, Nat.add_comm 1 i]
    exact hc'
/-- 's[:m]' -/
theorem Rd.take {A : Option Addr} {n cap : Nat} (h : Rd w N (.slice A n cap) xs) (m : Nat) (hm : m ≤ n) : Rd w N (.slice A m cap) (xs.take m) := by
  obtain ⟨h1, h2, h3, h4⟩ := h.at_
  refine ⟨A, cap, by rw [List.length_take, Nat.min_eq_left (by omega)], by rw [List.length_take]; omega, h3, ?_⟩
  by_cases hx : xs = []
  · subst hx; exact .inl (by simp)
  · have : 0 < xs.length := List.length_pos_iff.2 hx
    obtain ⟨g, o, rfl, hg, hl, hc⟩ := h4 0 xs[0] (List.getElem?_eq_getElem this)
    refine .inr ⟨g, o, rfl, hg, hl, fun i y hy => ?_⟩
    rw [List.getElem?_take] at hy
    split at hy
    · obtain ⟨g', o', hA', _, _, hc'⟩ := h4 i y hy
      injection hA' with hA'
      injection hA' with e1 e2
      subst e1 e2
      exact hc'
    · cases hy
end

theorem own_block_ge {w : World} {base e size n : Nat} {v : Value} {xs : List Value} (h : w.ownsRow base e size v n xs) {j : Nat} (hj : v.ownBlock = some j) : base ≤ j := by
  rcases h.2 with ⟨h1, _⟩ | ⟨g3, cap3, cur, h1, hg3, _⟩
  · subst h1; cases hj
  · subst h1; injection hj with hj; subst hj; exact hg3

theorem own_form {w : World} {base e size n : Nat} {v : Value} {xs : List Value} (h : w.ownsRow base e size v n xs) : ∃ A c, v = .slice A n c ∧ n ≤ c ∧ c ≤ maxLen := by
  rcases h.2 with ⟨h1, h2⟩ | ⟨g3, cap3, cur, h1, hg3, _, h4, h5, _⟩
  · subst h1 h2; exact ⟨none, 0, rfl, Nat.le_refl _, Nat.zero_le _⟩
  · exact ⟨_, cap3, h1, h4, h5⟩
theorem reads_one (w : World) (e : TypeId) (x : Value) (B : Nat) (hB : w.heap.size < B) : Reads (w.alloc (.cells #[x] e)) B 1 (some ⟨w.heap.size, 0, none⟩) 1 [x] :=
  ⟨rfl, fun _ => ⟨_, rfl, hB, cell_one_new _ _ _⟩⟩

theorem own_only {S : List Nat} {w w' : World} {base e size n : Nat} {v : Value} {xs : List Value} (h : w.ownsRow base e size v n xs) (ho : Only S w w') (hS : ∀ x ∈ S, x < base) : w'.ownsRow base e size v n xs := by
  obtain ⟨h1, h2⟩ := h
  refine ⟨h1, ?_⟩
  rcases h2 with h2 | ⟨g, cap, cur, rfl, hg, hh, h3⟩
  · exact .inl h2
  · exact .inr ⟨g, cap, cur, rfl, hg, (ho.block g (Blk.lt (t := e) (cs := cur) hh) (fun hx => by have := hS g hx; omega)).trans hh, h3⟩

theorem rd_new (w : World) (e : TypeId) (N : List Nat) (xs : List Value) (hN : ∀ x ∈ N, x < w.heap.size) (hm : xs.length ≤ maxLen) : Rd (w.alloc (.cells xs.toArray e)) N (.slice (some ⟨w.heap.size, 0, none⟩) xs.length xs.length) xs :=
  ⟨_, _, rfl, Nat.le_refl _, hm, .inr ⟨w.heap.size, 0, rfl, fun h => by have := hN _ h; omega, by simp, fun i x hx => by
    rw [Nat.zero_add, (Blk.new w e xs.toArray).cell]; simpa using hx⟩⟩

def ints (k : IntKind) (xs : List Int) : List Value := xs.map (Value.int k)
theorem ints_get {k : IntKind} {xs : List Int} {i : Nat} {x : Int} (h : xs[i]? = some x) : (ints k xs)[i]? = some (.int k x) := by simp [ints, h]
theorem ints_length (k : IntKind) (xs : List Int) : (ints k xs).length = xs.length := by simp [ints]
theorem Rd.formi {w : World} {N : List Nat} {v : Value} {k : IntKind} {xs : List Int} (h : Rd w N v (ints k xs)) : ∃ A cap, v = .slice A xs.length cap ∧ xs.length ≤ cap ∧ cap ≤ maxLen := by
  obtain ⟨A, cap, hv, hc, hm⟩ := h.form
  rw [ints_length] at hv hc
  exact ⟨A, cap, hv, hc, hm⟩
/-- Bytes as integers. -/
def byts (l : List UInt8) : List Int := l.map fun b => (b.toNat : Int)
theorem byts_length (l : List UInt8) : (byts l).length = l.length := by simp [byts]
theorem byts_get {l : List UInt8} {i : Nat} {b : UInt8} (h : l[i]? = some b) : (byts l)[i]? = some (b.toNat : Int) := by simp [byts, h]
theorem byts_append (l m : List UInt8) : byts (l ++ m) = byts l ++ byts m := by simp [byts]
theorem byts_of (zs : List Int) (h : ∀ n ∈ zs, 0 ≤ n ∧ n ≤ 255) : ∃ l : List UInt8, zs = byts l := by
  refine ⟨zs.map fun n => UInt8.ofNat n.toNat, ?_⟩
  unfold byts
  rw [List.map_map]
  conv => lhs; rw [← List.map_id zs]
  apply List.map_congr_left
  intro z hz
  have := h z hz
  simp only [id, Function.comp, UInt8.toNat_ofNat']
  omega
theorem Rd.formb {w : World} {N : List Nat} {v : Value} {k : IntKind} {l : List UInt8} (h : Rd w N v (ints k (byts l))) : ∃ A cap, v = .slice A l.length cap ∧ l.length ≤ cap ∧ cap ≤ maxLen := by
  obtain ⟨A, cap, hv, hc, hm⟩ := h.formi
  rw [byts_length] at hv hc
  exact ⟨A, cap, hv, hc, hm⟩
/-- 'string(b)' -/
theorem rd_string {P : Program} {w : World} {N : List Nat} {A : Option Addr} {n cap : Nat} {l : List UInt8} (h : Rd w N (.slice A n cap) (ints .u8 (byts l))) (src dst e : TypeId)
    (hs : P.underlying src = some (.slice e)) (he : P.underlying e = some (.int .u8)) (hd : P.underlying dst = some .string) : (convert src dst (.slice A n cap)).run P w = .ok (.string ⟨l.toArray⟩) w := by
  obtain ⟨h1, h2, h3, h4⟩ := h.at_
  rw [ints_length, byts_length] at h1
  subst h1
  cases A with
  | none =>
    have hl : l = [] := by
      cases l with
      | nil => rfl
      | cons y l =>
        obtain ⟨g, o, hA, _⟩ := h4 0 (.int .u8 (y.toNat : Int)) rfl
        cases hA
    subst hl
    exact Lib.run_convert_nil_bytes w src dst e cap hs he hd
  | some a =>
    refine run_convert_bytes_back w src dst e a cap l hs he hd fun j hj => ?_
    obtain ⟨g, o, hA, _, _, hc⟩ := h4 j (.int .u8 (l[j].toNat : Int)) (ints_get (byts_get (List.getElem?_eq_getElem hj)))
    injection hA with hA
    subst hA
    rw [add_mk]
    exact hc
end
end Go.Proofs.YthecnaclfhfilaaDoor

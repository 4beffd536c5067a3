/-
  Walks and plain words for PairLimits (texts Mem, App, Sl, Copy, Sls, Tm1, Tm2, Tm3, Num1, Num2, Num3). No condition beyond those that each theorem states.
-/
import Derived.WalkKit
import Derived.WalkSpells
import Derived.ProofKit
import Derived.Below
import Derived.Laws.OwnMore
import Derived.Laws.Rows
import Derived.Deep.Draws
import Derived.Deep.QuietTactic
import Derived.Laws.IdiomCopy
import Derived.BigQuiet
import Derived.RegionTactic
import Derived.BigRegion
import Derived.Outline
import Derived.Deep.RegionHeld3
import Derived.Deep.DeepFit
import Derived.Deep.DeepMust
import Derived.WalkLawsBesides
import Derived.Laws.BitsAllLaws
import Derived.Laws.BitsLemmas
import Derived.Deep.OwnRows
import Derived.Deep.RegionWith
import Derived.Deep.RegionLaw
import Derived.Deep.DeepCutAuto
import Derived.Deep.CutBlock
import Derived.Deep.AppendLies
import Derived.Maps.AppendAt
import Derived.ScopeJumps
import Derived.OwnWalk
import Derived.Lib.SliceRun
import Derived.Laws.BytesString
import Derived.Laws.IdiomStrings
import Derived.Lib.BufferRead
import Derived.OpenShut
import Derived.Deep.Slices
import Derived.Deep.Fields
import Derived.ChangeSame
import Derived.Laws.CopyOwn
import Derived.Test.YtfipdjlalfpbnaaDoorChecked
import Derived.Deep.LoopGhost
import Derived.Laws.RangeAny
namespace Go.Proofs.YtfipdjlalfpbnaaDoor
section
open Go.RowKit

theorem hide {p : Prop} (h : p) : Hid p := h
def Blk (w : World) (g : Nat) (t : TypeId) (cs : Array Value) : Prop := w.heap[g]? = some (.cells cs t (0, 0))

section
variable {w w' : World} {g : Nat} {t : TypeId} {cs : Array Value}
theorem Blk.lt (h : Blk w g t cs) : g < w.heap.size := by
  rcases Nat.lt_or_ge g w.heap.size with hlt | hge
  · exact hlt
  · unfold Blk at h; rw [Array.getElem?_eq_none hge] at h; cases h
theorem Blk.cell (h : Blk w g t cs) (i : Nat) : w.cell? ⟨g, i, none⟩ = cs[i]? := cell_of_row w g i cs t (0, 0) h
theorem Blk.frozen (h : Blk w g t cs) (i : Nat) : w.frozen? ⟨g, i, none⟩ = false := by
  unfold Blk at h
  simp [World.frozen?, h]
theorem Blk.new (w : World) (t : TypeId) (cs : Array Value) : Blk (w.alloc (.cells cs t)) w.heap.size t cs := heap_alloc_new w _
theorem Blk.drew (h : Blk w g t cs) : Blk w.drew g t cs := h
theorem Blk.drewN (h : Blk w g t cs) (n : Nat) : Blk (w.drewN n) g t cs := h
theorem Blk.alloc (h : Blk w g t cs) (o : Obj) : Blk (w.alloc o) g t cs := (Below.heap_alloc w o g h.lt).trans h
theorem Blk.set_ (h : Blk w g t cs) (i : Nat) (u : Value) : Blk (w.setCell ⟨g, i, none⟩ u) g t (cs.setIfInBounds i u) := by
  unfold Blk at h ⊢
  simp [World.setCell, Array.getElem?_modify, h]
theorem Blk.far (h : Blk w g t cs) {p : Addr} (hp : g ≠ p.block) (u : Value) : Blk (w.setCell p u) g t cs := (Below.heap_setCell w p u g hp).trans h
theorem Blk.below {B : Nat} (h : Blk w g t cs) (hb : Below B w w') (hg : g < B) : Blk w' g t cs := (hb.block g hg).trans h
theorem Blk.grown {row : Option Nat} (h : Blk w g t cs) (hb : w.grownBy w' row) (hg : some g ≠ row) : Blk w' g t cs := (hb.block g h.lt hg).trans h
theorem Blk.ne_ {g' : Nat} {t' : TypeId} {cs' : Array Value} (h : Blk w g t cs) (h' : Blk w g' t' cs') (hne : t ≠ t') : g ≠ g' := by
  rintro rfl
  unfold Blk at h h'
  rw [h] at h'
  injection h' with h'
  injection h' with _ ht
  exact hne ht
end

/-- Of the blocks that were there, none but those of S has turned. -/
structure Only (S : List Nat) (w w' : World) : Prop where
  os : w'.os = w.os
  tape : w'.tape = w.tape
  output : w'.output = w.output
  size : w.heap.size ≤ w'.heap.size
  block : ∀ k, k < w.heap.size → k ∉ S → w'.heap[k]? = w.heap[k]?

section
variable {S : List Nat} {a b w w' : World}
theorem Only.refl (S : List Nat) (w : World) : Only S w w := ⟨rfl, rfl, rfl, Nat.le_refl _, fun _ _ _ => rfl⟩
theorem Only.trans (h : Only S a b) (k : Only S b w) : Only S a w :=
  ⟨k.os.trans h.os, k.tape.trans h.tape, k.output.trans h.output, Nat.le_trans h.size k.size, fun i hi hn => (k.block i (Nat.lt_of_lt_of_le hi h.size) hn).trans (h.block i hi hn)⟩
theorem Only.mono {S' : List Nat} (h : Only S a b) (hs : ∀ x ∈ S, x ∈ S' ∨ a.heap.size ≤ x) : Only S' a b :=
  ⟨h.os, h.tape, h.output, h.size, fun i hi hn => h.block i hi (fun hx => (hs i hx).elim hn (by omega))⟩
theorem Only.drew (h : Only S a w) : Only S a w.drew := ⟨h.os, h.tape, h.output, h.size, h.block⟩
theorem Only.drewN (h : Only S a w) (n : Nat) : Only S a (w.drewN n) := ⟨h.os, h.tape, h.output, h.size, h.block⟩
theorem Only.alloc (h : Only S a w) (o : Obj) : Only S a (w.alloc o) :=
  ⟨h.os, h.tape, h.output, Nat.le_trans h.size (by simp), fun i hi hn => (Below.heap_alloc w o i (Nat.lt_of_lt_of_le hi h.size)).trans (h.block i hi hn)⟩
theorem Only.setCell (h : Only S a w) {p : Addr} (hp : p.block ∈ S ∨ a.heap.size ≤ p.block) (u : Value) : Only S a (w.setCell p u) :=
  ⟨h.os, h.tape, h.output, by simpa [World.setCell] using h.size, fun i hi hn => (Below.heap_setCell w p u i (by
    rintro rfl
    rcases hp with hp | hp
    · exact hn hp
    · omega)).trans (h.block i hi hn)⟩
theorem Only.grown (h : Only S a w) {row : Option Nat} (hg : w.grownBy w' row) (hr : ∀ k, row = some k → k ∈ S ∨ a.heap.size ≤ k) : Only S a w' :=
  ⟨hg.os.trans h.os, hg.tape.trans h.tape, hg.output.trans h.output, Nat.le_trans h.size hg.size, fun i hi hn => (hg.block i (Nat.lt_of_lt_of_le hi h.size) (fun e => by
    rcases hr i e.symm with hx | hx
    · exact hn hx
    · omega)).trans (h.block i hi hn)⟩
theorem Only.below {B : Nat} (h : Only S a w) (hs : ∀ x ∈ S, B ≤ x) (hB : B ≤ a.heap.size) : Below B a w :=
  ⟨h.os, h.tape, h.output, h.size, fun i hi => h.block i (by omega) (fun hx => by have := hs i hx; omega)⟩
theorem Blk.only {g : Nat} {t : TypeId} {cs : Array Value} (h : Blk a g t cs) (ho : Only S a w) (hg : g ∉ S) : Blk w g t cs := (ho.block g h.lt hg).trans h
end

/-- Cells written one behind the other. -/
def wr (cs : Array Value) : Nat → List Value → Array Value
  | _, [] => cs
  | o, v :: r => wr (cs.setIfInBounds o v) (o + 1) r
theorem wr_get : ∀ (vs : List Value) (cs : Array Value) (o i : Nat), o + vs.length ≤ cs.size → (wr cs o vs)[i]? = if o ≤ i ∧ i < o + vs.length then vs[i - o]? else cs[i]?
  | [], cs, o, i, _ => by rw [wr, if_neg (by simp)]
  | v :: r, cs, o, i, h => by
    rw [List.length_cons] at h
    rw [wr, wr_get r _ (o + 1) i (by simp; omega)]
    by_cases h1 : o = i
    · subst h1
      rw [if_neg (by omega), if_pos (by simp)]
      have ho : o < cs.size := by omega
      simp [ho]
    · by_cases h2 : o + 1 ≤ i ∧ i < o + 1 + r.length
      · rw [if_pos h2, if_pos (by simp; omega)]
        have : i - o = (i - (o + 1)) + 1 := by omega
        rw [this, List.getElem?_cons_succ]
      · rw [if_neg h2, if_neg (by simp; omega), Array.getElem?_setIfInBounds_ne h1]
theorem wr_whole (vs : List Value) (cs : Array Value) (h : vs.length = cs.size) : wr cs 0 vs = vs.toArray := by
  apply Array.ext_getElem?
  intro i
  rw [wr_get vs cs 0 i (by omega)]
  by_cases hi : i < vs.length
  · rw [if_pos (by omega)]; simp
  · rw [if_neg (by omega), Array.getElem?_eq_none (by omega)]; simp; omega
theorem wr_prefix (vs old rest : List Value) (h : old.length = vs.length) : wr (old ++ rest).toArray 0 vs = (vs ++ rest).toArray := by
  apply Array.ext_getElem?
  intro i
  rw [wr_get vs _ 0 i (by simp [h])]
  by_cases hi : i < vs.length
  · rw [if_pos (by omega)]; simp [List.getElem?_append_left, hi]
  · rw [if_neg (by omega)]; simp [List.getElem?_append_right, h, Nat.not_lt.1 hi]
theorem Blk.setCells {g : Nat} {t : TypeId} : ∀ (vs : List Value) (o : Nat) {w : World} {cs : Array Value}, Blk w g t cs → Blk (w.setCells g o vs) g t (wr cs o vs)
  | [], _, _, _, h => h
  | _ :: r, _, _, _, h => Blk.setCells r _ (h.set_ _ _)
theorem Blk.setCells_whole {g : Nat} {t : TypeId} {w : World} {cs : Array Value} {vs : List Value} (h : Blk w g t cs) (hl : vs.length = cs.size) : Blk (w.setCells g 0 vs) g t vs.toArray := by
  rw [← wr_whole vs cs hl]
  exact h.setCells vs 0
theorem Only.setCells {S : List Nat} {a : World} {g : Nat} (hg : g ∈ S ∨ a.heap.size ≤ g) : ∀ (o : Nat) (vs : List Value) {w : World}, Only S a w → Only S a (w.setCells g o vs)
  | _, [], _, h => h
  | _, _ :: r, _, h => Only.setCells hg _ r (h.setCell (p := ⟨g, _, none⟩) hg _)

/-- An aggregate stored into the middle of a block. -/
theorem run_storeVar_part {P : Program} (w : World) (g o : Nat) (ty : TypeId) (cells : Array Value) (hi : (P.info? ty).map (·.size) = some cells.size)
    (hc : ∀ j, j < cells.size → (w.cell? ⟨g, o + j, none⟩).isSome = true) (hf : ∀ j, j < cells.size → w.frozen? ⟨g, o + j, none⟩ = false) (h1 : cells.all (·.oneCell') = true) :
    (storeVar ty ⟨g, o, none⟩ (.agg cells)).run P w = .ok () (w.setCells g o cells.toList) := by
  have h := run_storeCells_cells (P := P) g o cells.toList 0 w (by simpa using hc) (by simpa using hf) (fun v hv => (Array.all_eq_true_iff_forall_mem.1 h1) v (by simpa using hv))
  cases hq : P.info? ty with
  | none => simp [hq] at hi
  | some i =>
    have hs : cells.size = i.size := by simp [hq] at hi; omega
    simp [storeVar, sizeOf, typeInfo, hq, Value.cells, hs, h]

theorem wpList_store_part {P : Program} {ops : Array Oper} {rest : List Oper} {o : Oper} {a : Act} {w : World} {Q : Exit → Act → World → Prop} (hgd : o.guard = none) (ty : TypeId) (x y : Operand) (ho : o.op = .store ty x y)
    (g off : Nat) (cells : Array Value) (hx : a.eval x = .pointer (some ⟨g, off, none⟩)) (hy : a.eval y = .agg cells) (hi : (P.info? ty).map (·.size) = some cells.size)
    (hc : ∀ j, j < cells.size → (w.cell? ⟨g, off + j, none⟩).isSome = true) (hf : ∀ j, j < cells.size → w.frozen? ⟨g, off + j, none⟩ = false) (h1 : cells.all (·.oneCell') = true)
    (h : wpList P ops Q rest (a.put o.dst undef) (w.setCells g off cells.toList)) : wpList P ops Q (o :: rest) a w := by
  refine wpList_plain hgd fun _ hK => ?_
  unfold Oper.wp execOp
  simp only [ho, hx, hy, Instr.storeAt, Instr.sureAddr, Sem.run_bind, Sem.run_pure, Result.andThen_ok, run_storeVar_part w g off ty cells hi hc hf h1]
  exact hK _ _ h
theorem below_drewN {B : Nat} {a w : World} (h : Below B a w) (n : Nat) : Below B a (w.drewN n) := ⟨h.os, h.tape, h.output, h.size, h.block⟩
end
section
open Go.RowKit

theorem block_of_add (a : Addr) (n : Nat) : (a.add n).block = a.block := by unfold Addr.add; split <;> rfl
def Reads (w : World) (B size : Nat) (A : Option Addr) (n : Nat) (xs : List Value) : Prop :=
  xs.length = n * size ∧ (0 < n → ∃ ad, A = some ad ∧ ad.block < B ∧ ∀ j u, xs[j]? = some u → w.cell? (ad.add j) = some u)

section
variable {w w' : World} {B B' size n : Nat} {A : Option Addr} {xs : List Value}
theorem Reads.at_ {k : Nat} (h : Reads w B 1 A n xs) (hk : k < n) : ∃ ad u, A = some ad ∧ ad.block < B ∧ xs[k]? = some u ∧ w.cell? (ad.add k) = some u := by
  obtain ⟨ad, e, hb, hc⟩ := h.2 (by omega)
  have hl : k < xs.length := by have := h.1; omega
  exact ⟨ad, xs[k], e, hb, List.getElem?_eq_getElem hl, hc k _ (List.getElem?_eq_getElem hl)⟩
theorem Reads.keep (h : Reads w B size A n xs) (hk : ∀ p : Addr, p.block < B → w'.cell? p = w.cell? p) : Reads w' B size A n xs :=
  ⟨h.1, fun hn => by
    obtain ⟨ad, e, hb, hc⟩ := h.2 hn
    exact ⟨ad, e, hb, fun j u hu => (hk _ (by rw [block_of_add]; exact hb)).trans (hc j u hu)⟩⟩
theorem Reads.below (h : Reads w B size A n xs) (hb : Below B w w') : Reads w' B size A n xs := h.keep fun _ hp => hb.cell hp
theorem Reads.drew (h : Reads w B size A n xs) : Reads w.drew B size A n xs := h
theorem Reads.drewN (h : Reads w B size A n xs) (k : Nat) : Reads (w.drewN k) B size A n xs := h
theorem Reads.alloc (h : Reads w B size A n xs) (hB : B ≤ w.heap.size) (o : Obj) : Reads (w.alloc o) B size A n xs := h.keep fun p hp => World.cell?_alloc_lt w o p (by omega)
theorem Reads.setCell (h : Reads w B size A n xs) {p : Addr} (hB : B ≤ p.block) (u : Value) : Reads (w.setCell p u) B size A n xs :=
  h.keep fun q hq => World.cell?_setCell_other w p q u (fun e => by subst e; omega)
theorem Reads.grown (h : Reads w B size A n xs) {row : Option Nat} (hg : w.grownBy w' row) (hB : B ≤ w.heap.size) (hr : ∀ g, row = some g → B ≤ g) : Reads w' B size A n xs :=
  h.keep fun p hp => World.cell?_of_block (hg.block p.block (by omega) (fun e => by have := hr _ e.symm; omega))
theorem Reads.of_own {base : Nat} {e : TypeId} {c : Nat} (h : w.ownsRow base e size (.slice A n c) n xs) : Reads w w.heap.size size A n xs := by
  refine ⟨h.1, fun hn => ?_⟩
  obtain ⟨g, cap, hv, _, hlt⟩ := h.form hn
  have hA : A = some ⟨g, 0, none⟩ := by injection hv
  subst hA
  exact ⟨_, rfl, hlt, h.cells (g := g) rfl⟩
end

section
variable {P : Program} (w : World)

theorem run_append_of_nil (base : Nat) (t ty e : TypeId) (i : TypeInfo) (size : Nat) (ht : P.underlying t = some (.slice e)) (hi : P.info? e = some i)
    (v : Value) (n : Nat) (xs : List Value) (hown : w.ownsRow base e size v n xs) (c : Nat) : (Builtin.append_ #[t, t] ty #[v, .slice none 0 c]).run P w = .ok v w := by
  rcases hown.2 with ⟨rfl, rfl⟩ | ⟨g, cap, cur, rfl, _, _, hnc, _⟩
  · simp [Builtin.append_, run_underlying ht, sizeOf, typeInfo, hi, Builtin.lenOf, Builtin.firstCells]
  · simp [Builtin.append_, run_underlying ht, sizeOf, typeInfo, hi, Builtin.lenOf, Builtin.firstCells, hnc, storeCells]

theorem run_append_any (base : Nat) (t ty e : TypeId) (i : TypeInfo) (z : Value) (size bytes : Nat) (ht : P.underlying t = some (.slice e)) (hi : P.info? e = some i) (hz : i.zero = some z)
    (hsize : i.size = size) (hby : i.bytes = bytes) (hzs : z.cells.size = size) (hsz : 0 < size)
    (v : Value) (n : Nat) (xs : List Value) (hown : w.ownsRow base e size v n xs)
    (B : Nat) (A : Option Addr) (m c : Nat) (news : List Value) (hr : Reads w B size A m news) (h1 : ∀ u ∈ news, u.oneCell' = true)
    (h63 : n + m ≤ maxLen) (hbytes : (n + m) * bytes ≤ 140737488355328) (hbase : base ≤ w.heap.size) :
    ∃ v' w', (Builtin.append_ #[t, t] ty #[v, .slice A m c]).run P w = .ok v' w' ∧ w'.ownsRow base e size v' (n + m) (xs ++ news) ∧ w.grownBy w' v.ownBlock ∧
      (v'.ownBlock = v.ownBlock ∨ v'.ownBlock = some w.heap.size) := by
  rcases A with _ | ad
  · have hm : m = 0 := by
      rcases Nat.eq_zero_or_pos m with h0 | h0
      · exact h0
      · obtain ⟨ad, h, _⟩ := hr.2 h0
        cases h
    subst hm
    have hn : news = [] := List.eq_nil_of_length_eq_zero (by simpa using hr.1)
    subst hn
    exact ⟨v, w, run_append_of_nil w base t ty e i size ht hi v n xs hown c, by simpa using hown, World.grownBy.refl w _, .inl rfl⟩
  · have hcells : ∀ j u, news[j]? = some u → w.cell? (ad.add j) = some u := by
      intro j u hu
      rcases Nat.eq_zero_or_pos m with h0 | h0
      · subst h0
        have hn : news = [] := List.eq_nil_of_length_eq_zero (by simpa using hr.1)
        subst hn
        simp at hu
      · obtain ⟨ad', h, _, hc⟩ := hr.2 h0
        injection h with h
        subst h
        exact hc j u hu
    obtain ⟨v', w', hrun, h2, h3, _, h5⟩ := run_append_own_at (P := P) w base t ty e i z size bytes ht hi hz hsize hby hzs hsz v n xs hown ad m c news hr.1 hcells h1 h63 hbytes hbase
    exact ⟨v', w', hrun, h2, h3, h5⟩

theorem wp_append_any {o : Oper} {a : Act} {K : Act → World → Prop} {Q : Exit → Act → World → Prop} (s x : Operand) (t : TypeId)
    (ho : o.op = .call { callee := .builtin .append, args := #[s, x], argTypes := #[t, t] })
    (base : Nat) (e : TypeId) (i : TypeInfo) (z : Value) (size bytes : Nat) (ht : P.underlying t = some (.slice e)) (hi : P.info? e = some i) (hz : i.zero = some z)
    (hsize : i.size = size) (hby : i.bytes = bytes) (hzs : z.cells.size = size) (hsz : 0 < size)
    (v : Value) (n : Nat) (xs : List Value) (hs : a.eval s = v) (hown : w.ownsRow base e size v n xs)
    (B : Nat) (A : Option Addr) (m c : Nat) (news : List Value) (hx : a.eval x = .slice A m c) (hr : Reads w B size A m news) (h1 : ∀ u ∈ news, u.oneCell' = true)
    (h63 : n + m ≤ maxLen) (hbytes : (n + m) * bytes ≤ 140737488355328) (hbase : base ≤ w.heap.size)
    (h : ∀ v' w', w'.ownsRow base e size v' (n + m) (xs ++ news) → w.grownBy w' v.ownBlock → (v'.ownBlock = v.ownBlock ∨ v'.ownBlock = some w.heap.size) → K (a.put o.dst v') w') : o.wp P a w K Q := by
  obtain ⟨v', w', hrun, h2, h3, h4⟩ := run_append_any (P := P) w base t o.type e i z size bytes ht hi hz hsize hby hzs hsz v n xs hown B A m c news hr h1 h63 hbytes hbase
  unfold Oper.wp execOp
  simp only [ho, resolve, invoke, builtin, Sem.run_bind, Sem.run_pure, Result.andThen_ok, List.map_toArray, List.map_cons, List.map_nil, hs, hx, hrun]
  exact h v' w' h2 h3 h4

theorem wpList_append_any {ops : Array Oper} {rest : List Oper} {o : Oper} {a : Act} {Q : Exit → Act → World → Prop} (hgd : o.guard = none) (s x : Operand) (t : TypeId)
    (ho : o.op = .call { callee := .builtin .append, args := #[s, x], argTypes := #[t, t] })
    (base : Nat) (e : TypeId) (i : TypeInfo) (z : Value) (size bytes : Nat) (ht : P.underlying t = some (.slice e)) (hi : P.info? e = some i) (hz : i.zero = some z)
    (hsize : i.size = size) (hby : i.bytes = bytes) (hzs : z.cells.size = size) (hsz : 0 < size)
    (v : Value) (n : Nat) (xs : List Value) (hs : a.eval s = v) (hown : w.ownsRow base e size v n xs)
    (B : Nat) (A : Option Addr) (m c : Nat) (news : List Value) (hx : a.eval x = .slice A m c) (hr : Reads w B size A m news) (h1 : ∀ u ∈ news, u.oneCell' = true)
    (h63 : n + m ≤ maxLen) (hbytes : (n + m) * bytes ≤ 140737488355328) (hbase : base ≤ w.heap.size)
    (h : ∀ v' w', w'.ownsRow base e size v' (n + m) (xs ++ news) → w.grownBy w' v.ownBlock → (v'.ownBlock = v.ownBlock ∨ v'.ownBlock = some w.heap.size) → wpList P ops Q rest (a.put o.dst v') w') : wpList P ops Q (o :: rest) a w :=
  wpList_plain hgd fun _ hK => wp_append_any w s x t ho base e i z size bytes ht hi hz hsize hby hzs hsz v n xs hs hown B A m c news hx hr h1 h63 hbytes hbase fun v' w' h2 h3 h4 => hK _ _ (h v' w' h2 h3 h4)

theorem step_append_any {ops : Array Oper} {o : Oper} {a : Act} {K : Act → World → Prop} {Q : Exit → Act → World → Prop} {E : Prop} (hgd : o.guard = none) (s x : Operand) (t : TypeId)
    (ho : o.op = .call { callee := .builtin .append, args := #[s, x], argTypes := #[t, t] })
    (base : Nat) (e : TypeId) (i : TypeInfo) (z : Value) (size bytes : Nat) (ht : P.underlying t = some (.slice e)) (hi : P.info? e = some i) (hz : i.zero = some z)
    (hsize : i.size = size) (hby : i.bytes = bytes) (hzs : z.cells.size = size) (hsz : 0 < size)
    (v : Value) (n : Nat) (xs : List Value) (hs : a.eval s = v) (hown : w.ownsRow base e size v n xs)
    (B : Nat) (A : Option Addr) (m c : Nat) (news : List Value) (hx : a.eval x = .slice A m c) (hr : Reads w B size A m news) (h1 : ∀ u ∈ news, u.oneCell' = true)
    (h63 : n + m ≤ maxLen) (hbytes : (n + m) * bytes ≤ 140737488355328) (hbase : base ≤ w.heap.size)
    (h : ∀ v' w', w'.ownsRow base e size v' (n + m) (xs ++ news) → w.grownBy w' v.ownBlock → (v'.ownBlock = v.ownBlock ∨ v'.ownBlock = some w.heap.size) → K (a.put o.dst v') w') :
    if Region.wanted o (yielded ops a.tmps) = true then Oper.wp P o a w K Q else E := by
  have hw : Region.wanted o (yielded ops a.tmps) = true := by simp [Region.wanted, hgd]
  rw [if_pos hw]
  exact wp_append_any w s x t ho base e i z size bytes ht hi hz hsize hby hzs hsz v n xs hs hown B A m c news hx hr h1 h63 hbytes hbase h
end
end
section
open Go.RowKit

def Rd (w : World) (N : List Nat) (v : Value) (xs : List Value) : Prop :=
  ∃ (A : Option Addr) (cap : Nat), v = .slice A xs.length cap ∧ xs.length ≤ cap ∧ cap ≤ maxLen ∧
    (xs = [] ∨ ∃ g o, A = some ⟨g, o, none⟩ ∧ g ∉ N ∧ g < w.heap.size ∧ ∀ i x, xs[i]? = some x → w.cell? ⟨g, o + i, none⟩ = some x)

theorem add_mk (g o i : Nat) : (⟨g, o, none⟩ : Addr).add i = ⟨g, o + i, none⟩ := by
  unfold Addr.add
  split <;> simp_all

theorem cell_only {S : List Nat} {w w' : World} (ho : Only S w w') {a : Addr} (hb : a.block < w.heap.size) (hs : a.block ∉ S) : w'.cell? a = w.cell? a :=
  World.cell?_of_block (ho.block a.block hb hs)
section
variable {w w' : World} {N S : List Nat} {v : Value} {xs : List Value}
theorem Rd.nil (w : World) (N : List Nat) : Rd w N (.slice none 0 0) [] := ⟨none, 0, rfl, Nat.le_refl _, Nat.zero_le _, .inl rfl⟩
theorem Rd.only (h : Rd w N v xs) (ho : Only S w w') (hs : ∀ x ∈ S, x ∈ N) : Rd w' N v xs := by
  obtain ⟨A, cap, hv, hc, hm, h⟩ := h
  refine ⟨A, cap, hv, hc, hm, ?_⟩
  rcases h with h | ⟨g, o, hA, hg, hl, hcell⟩
  · exact .inl h
  · exact .inr ⟨g, o, hA, hg, Nat.lt_of_lt_of_le hl ho.size, fun i x hx => (cell_only ho hl (fun hh => hg (hs _ hh))).trans (hcell i x hx)⟩
theorem Rd.less {N' : List Nat} (h : Rd w N v xs) (hs : ∀ x ∈ N', x ∈ N) : Rd w N' v xs := by
  obtain ⟨A, cap, hv, hc, hm, h⟩ := h
  refine ⟨A, cap, hv, hc, hm, ?_⟩
  rcases h with h | ⟨g, o, hA, hg, hl, hcell⟩
  · exact .inl h
  · exact .inr ⟨g, o, hA, fun hh => hg (hs _ hh), hl, hcell⟩
theorem Rd.of_own {base e n : Nat} (h : w.ownsRow base e 1 v n xs) (hN : ∀ x ∈ N, x < base) : Rd w N v xs ∧ xs.length = n := by
  obtain ⟨h1, h2⟩ := h
  rw [Nat.mul_one] at h1
  refine ⟨?_, h1⟩
  rcases h2 with ⟨rfl, rfl⟩ | ⟨g, cap, cur, rfl, hg, hh, hnc, hm, hs, hx⟩
  · rw [List.length_eq_zero_iff] at h1
    subst h1
    exact Rd.nil w N
  · refine ⟨_, cap, by rw [h1], by omega, hm, .inr ⟨g, 0, rfl, fun hh => by have := hN g hh; omega, Blk.lt (t := e) (cs := cur) hh, fun i x hxi => ?_⟩⟩
    rw [Nat.zero_add, Blk.cell (t := e) (cs := cur) hh]
    rw [← hx, List.getElem?_take] at hxi
    split at hxi
    · simpa using hxi
    · cases hxi
theorem Rd.at_ {A : Option Addr} {n cap : Nat} (h : Rd w N (.slice A n cap) xs) : n = xs.length ∧ n ≤ cap ∧ cap ≤ maxLen ∧
    (∀ k x, xs[k]? = some x → ∃ g o, A = some ⟨g, o, none⟩ ∧ g ∉ N ∧ g < w.heap.size ∧ w.cell? ⟨g, o + k, none⟩ = some x) := by
  obtain ⟨A', cap', hv, hc, hm, h⟩ := h
  injection hv with h1 h2 h3
  subst h1 h2 h3
  refine ⟨rfl, hc, hm, fun k x hx => ?_⟩
  rcases h with h | ⟨g, o, hA, hg, hl, hcell⟩
  · subst h; simp at hx
  · exact ⟨g, o, hA, hg, hl, hcell k x hx⟩
theorem Rd.form (h : Rd w N v xs) : ∃ A cap, v = .slice A xs.length cap ∧ xs.length ≤ cap ∧ cap ≤ maxLen := by
  obtain ⟨A, cap, hv, hc, hm, _⟩ := h
  exact ⟨A, cap, hv, hc, hm⟩
/-- 's[1:]' -/
theorem Rd.tail {A : Option Addr} {n cap : Nat} {x : Value} (h : Rd w N (.slice A n cap) (x :: xs)) :
    ∃ g o, A = some ⟨g, o, none⟩ ∧ n = xs.length + 1 ∧ n ≤ cap ∧ w.cell? ⟨g, o, none⟩ = some x ∧ Rd w N (.slice (if cap = 1 then some ⟨g, o, none⟩ else some ⟨g, o + 1, none⟩) (n - 1) (cap - 1)) xs := by
  obtain ⟨h1, h2, h3, h4⟩ := h.at_
  obtain ⟨g, o, rfl, hg, hl, hc⟩ := h4 0 x rfl
  refine ⟨g, o, rfl, by simpa using h1, h2, hc, ?_⟩
  simp at h1
  refine ⟨(if cap = 1 then some ⟨g, o, none⟩ else some ⟨g, o + 1, none⟩), cap - 1, by rw [h1]; rfl, by omega, by omega, ?_⟩
  by_cases hx : xs = []
  · exact .inl hx
  · have : 0 < xs.length := List.length_pos_iff.2 hx
    refine .inr ⟨g, o + 1, by rw [if_neg (by omega)], hg, hl, fun i y hy => ?_⟩
    obtain ⟨g', o', hA', _, _, hc'⟩ := h4 (i + 1) y (by simpa using hy)
    injection hA' with hA'
    injection hA' with e1 e2
    subst e1 e2
    rw [Nat.add_assoc, Nat.add_comm 1 i]
    exact hc'
/-- 's[:m]' -/
theorem Rd.take {A : Option Addr} {n cap : Nat} (h : Rd w N (.slice A n cap) xs) (m : Nat) (hm : m ≤ n) : Rd w N (.slice A m cap) (xs.take m) := by
  obtain ⟨h1, h2, h3, h4⟩ := h.at_
  refine ⟨A, cap, by rw [List.length_take, Nat.min_eq_left (by omega)], by rw [List.length_take]; omega, h3, ?_⟩
  by_cases hx : xs = []
  · subst hx; exact .inl (by simp)
  · have : 0 < xs.length := List.length_pos_iff.2 hx
    obtain ⟨g, o, rfl, hg, hl, hc⟩ := h4 0 xs[0] (List.getElem?_eq_getElem this)
    refine .inr ⟨g, o, rfl, hg, hl, fun i y hy => ?_⟩
    rw [List.getElem?_take] at hy
    split at hy
    · obtain ⟨g', o', hA', _, _, hc'⟩ := h4 i y hy
      injection hA' with hA'
      injection hA' with e1 e2
      subst e1 e2
      exact hc'
    · cases hy
end

theorem own_block_ge {w : World} {base e size n : Nat} {v : Value} {xs : List Value} (h : w.ownsRow base e size v n xs) {j : Nat} (hj : v.ownBlock = some j) : base ≤ j := by
  rcases h.2 with ⟨h1, _⟩ | ⟨g3, cap3, cur, h1, hg3, _⟩
  · subst h1; cases hj
  · subst h1; injection hj with hj; subst hj; exact hg3

theorem own_form {w : World} {base e size n : Nat} {v : Value} {xs : List Value} (h : w.ownsRow base e size v n xs) : ∃ A c, v = .slice A n c ∧ n ≤ c ∧ c ≤ maxLen := by
  rcases h.2 with ⟨h1, h2⟩ | ⟨g3, cap3, cur, h1, hg3, _, h4, h5, _⟩
  · subst h1 h2; exact ⟨none, 0, rfl, Nat.le_refl _, Nat.zero_le _⟩
  · exact ⟨_, cap3, h1, h4, h5⟩
theorem reads_one (w : World) (e : TypeId) (x : Value) (B : Nat) (hB : w.heap.size < B) : Reads (w.alloc (.cells #[x] e)) B 1 (some ⟨w.heap.size, 0, none⟩) 1 [x] :=
  ⟨rfl, fun _ => ⟨_, rfl, hB, cell_one_new _ _ _⟩⟩

theorem own_only {S : List Nat} {w w' : World} {base e size n : Nat} {v : Value} {xs : List Value} (h : w.ownsRow base e size v n xs) (ho : Only S w w') (hS : ∀ x ∈ S, x < base) : w'.ownsRow base e size v n xs := by
  obtain ⟨h1, h2⟩ := h
  refine ⟨h1, ?_⟩
  rcases h2 with h2 | ⟨g, cap, cur, rfl, hg, hh, h3⟩
  · exact .inl h2
  · exact .inr ⟨g, cap, cur, rfl, hg, (ho.block g (Blk.lt (t := e) (cs := cur) hh) (fun hx => by have := hS g hx; omega)).trans hh, h3⟩

theorem rd_new (w : World) (e : TypeId) (N : List Nat) (xs : List Value) (hN : ∀ x ∈ N, x < w.heap.size) (hm : xs.length ≤ maxLen) : Rd (w.alloc (.cells xs.toArray e)) N (.slice (some ⟨w.heap.size, 0, none⟩) xs.length xs.length) xs :=
  ⟨_, _, rfl, Nat.le_refl _, hm, .inr ⟨w.heap.size, 0, rfl, fun h => by have := hN _ h; omega, by simp, fun i x hx => by
    rw [Nat.zero_add, (Blk.new w e xs.toArray).cell]; simpa using hx⟩⟩

def ints (k : IntKind) (xs : List Int) : List Value := xs.map (Value.int k)
theorem ints_get {k : IntKind} {xs : List Int} {i : Nat} {x : Int} (h : xs[i]? = some x) : (ints k xs)[i]? = some (.int k x) := by simp [ints, h]
theorem ints_length (k : IntKind) (xs : List Int) : (ints k xs).length = xs.length := by simp [ints]
theorem Rd.formi {w : World} {N : List Nat} {v : Value} {k : IntKind} {xs : List Int} (h : Rd w N v (ints k xs)) : ∃ A cap, v = .slice A xs.length cap ∧ xs.length ≤ cap ∧ cap ≤ maxLen := by
  obtain ⟨A, cap, hv, hc, hm⟩ := h.form
  rw [ints_length] at hv hc
  exact ⟨A, cap, hv, hc, hm⟩
def nats (L : List Nat) : List Int := L.map fun (n : Nat) => (n : Int)
theorem snoc_ind {α : Type} {P : List α → Prop} (h0 : P []) (h1 : ∀ L x, P L → P (L ++ [x])) (L : List α) : P L := by
  have key : ∀ R : List α, P R.reverse := by
    intro R
    induction R with
    | nil => exact h0
    | cons x R ih => rw [List.reverse_cons]; exact h1 _ _ ih
  have h := key L.reverse
  rwa [List.reverse_reverse] at h


/-- Bytes as integers. -/
def byts (l : List UInt8) : List Int := l.map fun b => (b.toNat : Int)
theorem byts_length (l : List UInt8) : (byts l).length = l.length := by simp [byts]
theorem byts_get {l : List UInt8} {i : Nat} {b : UInt8} (h : l[i]? = some b) : (byts l)[i]? = some (b.toNat : Int) := by simp [byts, h]
theorem byts_append (l m : List UInt8) : byts (l ++ m) = byts l ++ byts m := by simp [byts]
theorem Rd.formb {w : World} {N : List Nat} {v : Value} {k : IntKind} {l : List UInt8} (h : Rd w N v (ints k (byts l))) : ∃ A cap, v = .slice A l.length cap ∧ l.length ≤ cap ∧ cap ≤ maxLen := by
  obtain ⟨A, cap, hv, hc, hm⟩ := h.formi
  rw [byts_length] at hv hc
  exact ⟨A, cap, hv, hc, hm⟩
/-- 'string(b)' -/
theorem rd_string {P : Program} {w : World} {N : List Nat} {A : Option Addr} {n cap : Nat} {l : List UInt8} (h : Rd w N (.slice A n cap) (ints .u8 (byts l))) (src dst e : TypeId)
    (hs : P.underlying src = some (.slice e)) (he : P.underlying e = some (.int .u8)) (hd : P.underlying dst = some .string) : (convert src dst (.slice A n cap)).run P w = .ok (.string ⟨l.toArray⟩) w := by
  obtain ⟨h1, h2, h3, h4⟩ := h.at_
  rw [ints_length, byts_length] at h1
  subst h1
  cases A with
  | none =>
    have hl : l = [] := by
      cases l with
      | nil => rfl
      | cons y l =>
        obtain ⟨g, o, hA, _⟩ := h4 0 (.int .u8 (y.toNat : Int)) rfl
        cases hA
    subst hl
    exact Lib.run_convert_nil_bytes w src dst e cap hs he hd
  | some a =>
    refine run_convert_bytes_back w src dst e a cap l hs he hd fun j hj => ?_
    obtain ⟨g, o, hA, _, _, hc⟩ := h4 j (.int .u8 (l[j].toNat : Int)) (ints_get (byts_get (List.getElem?_eq_getElem hj)))
    injection hA with hA
    subst hA
    rw [add_mk]
    exact hc
end
section
open Go.RowKit

theorem madeCells_one (z : Value) (hz : z.cells = #[z]) (n : Nat) : madeCells z.cells n = (List.replicate n z).toArray := by
  rw [hz]
  apply Array.ext
  · simp [madeCells]
  · intro i h1 h2
    simp [madeCells, Nat.mod_one]

theorem run_make_row {P : Program} (w : World) (t e : TypeId) (i : TypeInfo) (z : Value) (ht : P.underlying t = some (.slice e)) (hi : P.info? e = some i) (hz : i.zero = some z) (hs : i.size = 1) (hc : z.cells = #[z])
    (kl kc : IntKind) (l c : Nat) (hlc : l ≤ c) (hbytes : i.bytes * c ≤ 281474976710656) (h63 : c ≤ 9223372036854775807) :
    (Instr.makeSlice t (.int kl (l : Int)) (.int kc (c : Int))).run P w = .ok (.slice (some ⟨w.heap.size, 0, none⟩) l c) (w.alloc (.cells (Array.replicate c z) e)) := by
  have hb' : (i.bytes : Int) * (c : Int) ≤ 281474976710656 := by
    have h : ((i.bytes * c : Nat) : Int) ≤ 281474976710656 := by omega
    rwa [Int.natCast_mul] at h
  have h := run_make (P := P) w t e i z ht hi hz kl kc l c (by omega) (by omega) hb' (by omega)
  rw [h, Int.toNat_natCast, Int.toNat_natCast, hs, Nat.mul_one, madeCells_one z hc, List.toArray_replicate]
end
section
open Go.RowKit Go.Deep

def RdS {α : Type} (k : Nat) (F : α → List Value) (w : World) (N : List Nat) (v : Value) (l : List α) : Prop :=
  ∃ (A : Option Addr) (cap : Nat), v = .slice A l.length cap ∧ l.length ≤ cap ∧ cap ≤ maxLen ∧
    (l = [] ∨ ∃ g o, A = some ⟨g, o, none⟩ ∧ g ∉ N ∧ g < w.heap.size ∧ ∀ i p, l[i]? = some p → ∀ j u, (F p)[j]? = some u → w.cell? ⟨g, o + (i * k + j), none⟩ = some u)

section
variable {α : Type} {k : Nat} {F : α → List Value} {w w' : World} {N S : List Nat} {v : Value} {l : List α}
theorem RdS.nil (w : World) (N : List Nat) : RdS k F w N (.slice none 0 0) [] := ⟨none, 0, rfl, Nat.le_refl _, Nat.zero_le _, .inl rfl⟩
theorem RdS.form (h : RdS k F w N v l) : ∃ A cap, v = .slice A l.length cap ∧ l.length ≤ cap ∧ cap ≤ maxLen := by
  obtain ⟨A, cap, hv, hc, hm, _⟩ := h
  exact ⟨A, cap, hv, hc, hm⟩
theorem RdS.only (h : RdS k F w N v l) (ho : Only S w w') (hs : ∀ x ∈ S, x ∈ N) : RdS k F w' N v l := by
  obtain ⟨A, cap, hv, hc, hm, h⟩ := h
  refine ⟨A, cap, hv, hc, hm, ?_⟩
  rcases h with h | ⟨g, o, hA, hg, hl, hcell⟩
  · exact .inl h
  · exact .inr ⟨g, o, hA, hg, Nat.lt_of_lt_of_le hl ho.size, fun i p hp j u hu => (cell_only ho hl (fun hh => hg (hs _ hh))).trans (hcell i p hp j u hu)⟩
theorem RdS.cell {g o n cap : Nat} (h : RdS k F w N (.slice (some ⟨g, o, none⟩) n cap) l) {i : Nat} {p : α} (hp : l[i]? = some p) {j : Nat} {u : Value} (hu : (F p)[j]? = some u) : w.cell? ⟨g, o + (i * k + j), none⟩ = some u := by
  obtain ⟨A', cap', hv, _, _, h⟩ := h
  injection hv with h1 h2 h3
  rcases h with h | ⟨g', o', hA, _, _, hc⟩
  · subst h; simp at hp
  · rw [← h1] at hA
    injection hA with hA
    injection hA with e1 e2
    subst e1 e2
    exact hc i p hp j u hu
end

theorem flat_get {α β : Type} (F : α → List β) (k : Nat) (hk : ∀ p, (F p).length = k) : ∀ (l : List α) (i : Nat) (p : α), l[i]? = some p → ∀ j, j < k → (l.flatMap F)[i * k + j]? = (F p)[j]?
  | [], i, p, h, _, _ => by simp at h
  | x :: r, 0, p, h, j, hj => by
    simp at h
    subst h
    rw [List.flatMap_cons, Nat.zero_mul, Nat.zero_add, List.getElem?_append_left (by rw [hk]; exact hj)]
  | x :: r, i + 1, p, h, j, hj => by
    rw [List.getElem?_cons_succ] at h
    rw [List.flatMap_cons, List.getElem?_append_right (by rw [hk, Nat.succ_mul]; omega), hk, show (i + 1) * k + j - k = i * k + j by rw [Nat.succ_mul]; omega]
    exact flat_get F k hk r i p h j hj
theorem flat_len {α β : Type} (F : α → List β) (k : Nat) (hk : ∀ p, (F p).length = k) (l : List α) : (l.flatMap F).length = l.length * k := by
  induction l with
  | nil => simp
  | cons x r ih => rw [List.flatMap_cons, List.length_append, ih, hk, List.length_cons, Nat.succ_mul, Nat.add_comm]

theorem RdS.of_own {α : Type} {k : Nat} {F : α → List Value} {w : World} {N : List Nat} {v : Value} {l : List α} {base e n : Nat} (hk : ∀ p, (F p).length = k) (hk0 : 0 < k) (h : w.ownsRow base e k v n (l.flatMap F)) (hN : ∀ x ∈ N, x < base) : RdS k F w N v l ∧ l.length = n := by
  obtain ⟨h1, h2⟩ := h
  rw [flat_len F k hk] at h1
  have hn : l.length = n := Nat.eq_of_mul_eq_mul_right hk0 h1
  refine ⟨?_, hn⟩
  rcases h2 with ⟨rfl, rfl⟩ | ⟨g, cap, cur, rfl, hg, hh, hnc, hm, hs, hx⟩
  · rw [List.length_eq_zero_iff] at hn
    subst hn
    exact RdS.nil w N
  · refine ⟨_, cap, by rw [hn], by omega, hm, .inr ⟨g, 0, rfl, fun hh => by have := hN g hh; omega, Blk.lt (t := e) (cs := cur) hh, fun i p hp j u hu => ?_⟩⟩
    have hj : j < k := by
      have := (List.getElem?_eq_some_iff.1 hu).1
      rwa [hk] at this
    have hget := flat_get F k hk l i p hp j hj
    rw [hu, ← hx, List.getElem?_take] at hget
    rw [Nat.zero_add, Blk.cell (t := e) (cs := cur) hh]
    split at hget
    · simpa using hget
    · cases hget
end
section
open Go.RowKit

def kindV (c : Int) : Int :=
  if c = 48 then 1 else if c = 97 then 2 else if c = 110 then 3 else if c = 120 then 4 else if c = 112 then 5 else if c = 100 then 6
  else if c = 104 then 7 else if c = 107 then 8 else if c = 109 then 9 else if c = 115 then 10 else if c = 108 then 11 else 0
set_option maxHeartbeats 1600000 in
theorem kindOf_any (c : Int) (w : World) : Calls Tryd.prog 95 #[.int .u8 c] w fun e w' => e = .returned (.int .i64 (kindV c)) ∧ w = w' := by
  go_enter Tryd.func95, Tryd.ntmps95
  go_wp2
  all_goals
    go_ret
    exact ⟨by simp_all [kindV], rfl⟩

def numberedV (k : Int) : Bool := (k == 2) || (k == 3) || (k == 8) || (k == 10)
set_option maxHeartbeats 1600000 in
theorem numbered_any (k : Int) (w : World) : Calls Tryd.prog 57 #[.int .i64 k] w fun e w' => e = .returned (.bool (numberedV k)) ∧ w = w' := by
  go_enter Tryd.func57, Tryd.ntmps57
  go_wp2
  all_goals
    go_ret
    exact ⟨by simp_all [numberedV], rfl⟩

def allowedV (k n : Int) : Bool := if k = 2 then decide (n ≤ 4294967295) else if k = 8 then decide (1 ≤ n ∧ n ≤ 3) else true
set_option maxHeartbeats 1600000 in
theorem allowed_any (k n : Int) (w : World) : Calls Tryd.prog 58 #[.int .i64 k, .int .u64 n] w fun e w' => e = .returned (.bool (allowedV k n)) ∧ w = w' := by
  go_enter Tryd.func58, Tryd.ntmps58
  go_wp2
  all_goals
    go_ret
    exact ⟨by first | (simp_all [allowedV]; done) | (simp_all [allowedV]; omega), rfl⟩

def leastV (k : Int) : Int := if k = 5 then 1 else if k = 6 ∨ k = 8 ∨ k = 9 then 2 else if k = 10 then 3 else if k = 7 then 1 else 0
def mostV (k : Int) : Int := if k = 5 then 1 else if k = 6 ∨ k = 8 ∨ k = 9 then 2 else if k = 10 then 3 else if k = 7 then -1 else if k = 11 then -1 else 0
set_option maxHeartbeats 1600000 in
theorem arity_any (k : Int) (w : World) : Calls Tryd.prog 72 #[.int .i64 k] w fun e w' => e = .returned (.tuple #[.int .i64 (leastV k), .int .i64 (mostV k)]) ∧ w = w' := by
  go_enter Tryd.func72, Tryd.ntmps72
  go_wp2
  all_goals
    go_ret2
    exact ⟨by simp_all [leastV, mostV], rfl⟩

def fitsV (k c : Int) : Bool := decide (leastV k ≤ c) && (decide (mostV k < 0) || decide (c ≤ mostV k))
set_option maxHeartbeats 1600000 in
theorem fits_any (k c : Int) (w : World) : Calls Tryd.prog 59 #[.int .i64 k, .int .i64 c] w fun e w' => e = .returned (.bool (fitsV k c)) ∧ w = w' := by
  go_enter Tryd.func59, Tryd.ntmps59
  go_wp2_with (go_at_call 72; refine (arity_any _ _).mono ?_; rintro e w' ⟨rfl, rfl⟩)
  all_goals
    go_ret
    exact ⟨by first | (simp_all [fitsV]; done) | (simp_all [fitsV]; omega), rfl⟩

def signV (r : Int) : Int := if 48 ≤ r ∧ r ≤ 57 then r - 48 else if 97 ≤ r ∧ r ≤ 102 then r - 87 else -1
set_option maxHeartbeats 1600000 in
theorem sign_any (r : Int) (w : World) : Calls Tryd.prog 106 #[.int .i32 r] w fun e w' => e = .returned (.int .i64 (signV r)) ∧ w = w' := by
  by_cases h1 : 48 ≤ r ∧ r ≤ 57
  · obtain ⟨h1, h2⟩ := h1
    have hv : signV r = r - 48 := by unfold signV; rw [if_pos ⟨h1, h2⟩]
    have HV := hide hv
    clear hv
    go_enter Tryd.func106, Tryd.ntmps106
    go_wp2
    all_goals
      go_ret
      exact ⟨(by rw [HV.out]; rfl), rfl⟩
  · by_cases h2 : 97 ≤ r ∧ r ≤ 102
    · obtain ⟨h2, h3⟩ := h2
      have hv : signV r = r - 97 + 10 := by unfold signV; rw [if_neg h1, if_pos ⟨h2, h3⟩]; omega
      have h4 : ¬ r ≤ 57 := by omega
      have h5 : 48 ≤ r := by omega
      have HV := hide hv
      clear hv h1
      go_enter Tryd.func106, Tryd.ntmps106
      go_wp2
      all_goals
        go_ret
        exact ⟨(by rw [HV.out]; rfl), rfl⟩
    · have hv : signV r = -1 := by unfold signV; rw [if_neg h1, if_neg h2]
      have HV := hide hv
      clear hv
      by_cases a : 48 ≤ r <;> by_cases b : r ≤ 57 <;> by_cases c : 97 ≤ r <;> by_cases d : r ≤ 102
      all_goals first
        | (exfalso; omega)
        | (clear h1 h2
           go_enter Tryd.func106, Tryd.ntmps106
           go_wp2
           all_goals
             go_ret
             exact ⟨(by rw [HV.out]; rfl), rfl⟩)
end
section
open Go.RowKit Go.Deep

def del (c : UInt8) : Bool := c == 44 || c == 41 || c == 40
/-- The end of the word that begins at p. -/
def wend (s : ByteArray) (p : Nat) : Nat := p + ((s.data.toList.drop p).takeWhile fun c => !del c).length
theorem drop_at (s : ByteArray) (p : Nat) (h : p < s.size) : s.data.toList.drop p = s[p] :: s.data.toList.drop (p + 1) := by
  rw [List.drop_eq_getElem_cons (by simpa using h)]; rfl
theorem wend_end (s : ByteArray) (p : Nat) (h : s.size ≤ p) : wend s p = p := by
  unfold wend; rw [List.drop_of_length_le (by simpa using h)]; simp
theorem wend_stop (s : ByteArray) (p : Nat) (h : p < s.size) (hd : del s[p] = true) : wend s p = p := by
  unfold wend; rw [drop_at s p h]; simp [hd]
theorem wend_step (s : ByteArray) (p : Nat) (h : p < s.size) (hd : del s[p] = false) : wend s (p + 1) = wend s p := by
  unfold wend; rw [drop_at s p h]; simp [hd]; omega
theorem wend_ge (s : ByteArray) (p : Nat) : p ≤ wend s p := Nat.le_add_right _ _
theorem wend_le (s : ByteArray) (p : Nat) (h : p ≤ s.size) : wend s p ≤ s.size := by
  unfold wend
  have h1 : ((s.data.toList.drop p).takeWhile fun c => !del c).length ≤ (s.data.toList.drop p).length := (List.takeWhile_sublist _).length_le
  have h2 : (s.data.toList.drop p).length = s.size - p := by rw [List.length_drop]; rfl
  omega

def peekV (s : ByteArray) (p : Nat) (c : Int) : Bool := if h : p < s.size then ((s[p].toNat : Int) == c) else false

set_option maxRecDepth 100000 in
set_option maxHeartbeats 1600000 in
theorem peek_any (w : World) (g : Nat) (s : ByteArray) (p : Nat) (c : Int) (hb : Blk w g 130 #[.string s, .int .i64 p]) (_hs : s.size ≤ maxLen) :
    Calls Tryd.prog 107 #[.pointer (some ⟨g, 0, none⟩), .int .u8 c] w fun e w' => e = .returned (.bool (peekV s p c)) ∧ ∃ n, w' = w.drewN n := by
  unfold maxLen at _hs
  have k0 := hb.cell 0
  have k1 := hb.cell 1
  simp at k0 k1
  clear hb
  by_cases hlt : p < s.size
  · have hlt' : (p : Int) < s.size := by omega
    have HV := hide (show peekV s p c = ((s[p].toNat : Int) == c) by unfold peekV; rw [dif_pos hlt])
    have hd : decide (p < s.size) = true := decide_eq_true hlt
    go_enter Tryd.func107, Tryd.ntmps107
    go_wp2_with fail
    go_quiet (fail)
    go_wp2_with fail
    go_ret
    exact ⟨(by rw [HV.out]; rfl), _, rfl⟩
  · have hlt' : ¬ (p : Int) < s.size := by omega
    have HV := hide (show peekV s p c = false by unfold peekV; rw [dif_neg hlt])
    have hd : decide (p < s.size) = false := decide_eq_false hlt
    go_enter Tryd.func107, Tryd.ntmps107
    go_wp2_with fail
    go_quiet (fail)
    go_wp2_with fail
    go_ret
    exact ⟨(by rw [HV.out]; rfl), _, rfl⟩

/-- The ending of a reader that meets no term. -/
def Fault (S : List Nat) (w : World) (e : Ending) (w' : World) : Prop := e = .panicked [{ v := .iface 133 (.agg #[]), recovered := false }] ∧ Only S w w'
/-- The reader stands at p. -/
def At (g : Nat) (s : ByteArray) (p : Nat) (w : World) : Prop := Blk w g 130 #[.string s, .int .i64 p]
def TakePost (g : Nat) (s : ByteArray) (p : Nat) (ok : Bool) (w : World) (e : Ending) (w' : World) : Prop :=
  if ok = true then e = .returned (.tuple #[]) ∧ At g s (p + 1) w' ∧ Only [g] w w' else Fault [g] w e w'

theorem take_no {g : Nat} {s : ByteArray} {p : Nat} {ok : Bool} {w w' : World} (h : ok = false) (ho : Only [g] w w') : TakePost g s p ok w (.panicked [{ v := .iface 133 (.agg #[]), recovered := false }]) w' := by
  subst h; exact ⟨rfl, ho⟩
theorem take_yes {g : Nat} {s : ByteArray} {p : Nat} {ok : Bool} {w w' : World} (h : ok = true) (hb : At g s (p + 1) w') (ho : Only [g] w w') : TakePost g s p ok w (.returned (.tuple #[])) w' := by
  subst h; exact ⟨rfl, hb, ho⟩
set_option maxRecDepth 100000 in
set_option maxHeartbeats 1600000 in
theorem take_any (w : World) (g : Nat) (s : ByteArray) (p : Nat) (c : Int) (hb : At g s p w) (hs : s.size ≤ maxLen) :
    Calls Tryd.prog 99 #[.pointer (some ⟨g, 0, none⟩), .int .u8 c] w (TakePost g s p (peekV s p c) w) := by
  unfold maxLen at hs
  have HB := hide hb
  have HO := hide (Only.refl [g] w)
  have k0 := hb.cell 0
  have k1 := hb.cell 1
  have f1 := hb.frozen 1
  simp at k0 k1
  clear hb
  by_cases hlt : p < s.size
  · have hlt' : ¬ (s.size : Int) ≤ p := by omega
    have hd : decide (s.size ≤ p) = false := decide_eq_false (by omega)
    cases hc : ((s[p].toNat : Int) == c) with
    | true =>
      have HV := hide (show peekV s p c = true by unfold peekV; rw [dif_pos hlt]; exact hc)
      have hn : ((s[p].toNat : Int) != c) = false := by simpa [bne] using hc
      go_enter Tryd.func99, Tryd.ntmps99
      go_wp2_with fail
      go_quiet (fail)
      go_wp2_with fail
      go_end0
      exact take_yes HV.out ((HB.out.drewN _).set_ 1 _) ((HO.out.drewN _).setCell (p := ⟨g, 1, none⟩) (.inl (by simp)) _)
    | false =>
      have HV := hide (show peekV s p c = false by unfold peekV; rw [dif_pos hlt]; exact hc)
      have hn : ((s[p].toNat : Int) != c) = true := by simpa [bne] using hc
      go_enter Tryd.func99, Tryd.ntmps99
      go_wp2_with fail
      go_quiet (fail)
      go_wp2_with fail
      exact ⟨rfl, take_no HV.out (HO.out.drewN _)⟩
  · have hlt' : (s.size : Int) ≤ p := by omega
    have hd : decide (s.size ≤ p) = true := decide_eq_true (by omega)
    have HV := hide (show peekV s p c = false by unfold peekV; rw [dif_neg hlt])
    go_enter Tryd.func99, Tryd.ntmps99
    go_wp2_with fail
    go_quiet (fail)
    go_wp2_with fail
    exact ⟨rfl, take_no HV.out (HO.out.drewN _)⟩
end
section
open Go.RowKit Go.Deep

def WordPost (g : Nat) (s : ByteArray) (p : Nat) (w : World) (e : Ending) (w' : World) : Prop :=
  e = .returned (.string (s.extract p (wend s p))) ∧ At g s (wend s p) w' ∧ Only [g] w w'

theorem byte_lt (c : UInt8) : c.toNat < 256 := c.toNat_lt
theorem ne_of_nat {c : UInt8} {n : Nat} (h : (c == UInt8.ofNat n) = false) (hn : n < 256) : ((c.toNat : Int) != n) = true := by
  have h1 : c.toNat ≠ n := by
    intro e
    subst e
    simp at h
  simp only [bne_iff_ne, ne_eq]
  omega
theorem del_false {c : UInt8} (h : del c = false) : ((c.toNat : Int) != 44) = true ∧ ((c.toNat : Int) != 41) = true ∧ ((c.toNat : Int) != 40) = true := by
  unfold del at h
  simp only [Bool.or_eq_false_iff] at h
  exact ⟨ne_of_nat (n := 44) h.1.1 (by decide), ne_of_nat (n := 41) h.1.2 (by decide), ne_of_nat (n := 40) h.2 (by decide)⟩
theorem del_true {c : UInt8} (h : del c = true) : ((c.toNat : Int) != 44) = false ∨ (((c.toNat : Int) != 44) = true ∧ ((c.toNat : Int) != 41) = false) ∨
    (((c.toNat : Int) != 44) = true ∧ ((c.toNat : Int) != 41) = true ∧ ((c.toNat : Int) != 40) = false) := by
  unfold del at h
  simp only [Bool.or_eq_true, beq_iff_eq] at h
  rcases h with (h | h) | h
  · subst h; exact .inl rfl
  · subst h; exact .inr (.inl ⟨rfl, rfl⟩)
  · subst h; exact .inr (.inr ⟨rfl, rfl, rfl⟩)
theorem word_end {g : Nat} {s : ByteArray} {p j : Nat} {w w' : World} (h : wend s p = j) (hb : At g s j w') (ho : Only [g] w w') : WordPost g s p w (.returned (.string (s.extract p j))) w' := by
  subst h; exact ⟨rfl, hb, ho⟩

set_option maxRecDepth 100000 in
set_option maxHeartbeats 3200000 in
theorem word_any (w : World) (g : Nat) (s : ByteArray) (p : Nat) (hb : At g s p w) (hp : p ≤ s.size) (hs : s.size ≤ maxLen) :
    Calls Tryd.prog 98 #[.pointer (some ⟨g, 0, none⟩)] w (WordPost g s p w) := by
  unfold maxLen at hs
  have HB := hide hb
  have k0 := hb.cell 0
  have k1 := hb.cell 1
  simp at k0 k1
  clear hb
  go_enter Tryd.func98, Tryd.ntmps98
  go_wp2_with fail
  clear k0 k1
  go_loopg [] (s.size - p) (fun gk wr => ∃ j : Nat, p ≤ j ∧ j ≤ s.size ∧ gk + j = s.size ∧ Hid (wend s j = wend s p) ∧ Hid (At g s j wr) ∧ Hid (Only [g] w wr))
  case atStart => exact ⟨p, Nat.le_refl _, hp, by omega, hide rfl, HB, hide (Only.refl _ _)⟩
  case round =>
    obtain ⟨j, hpj, hj, hgk, hw, HA, HO⟩ := hrel
    have k0 := HA.out.cell 0
    have k1 := HA.out.cell 1
    have f1 := HA.out.frozen 1
    simp at k0 k1
    have HG := hide hgk
    clear hgk
    by_cases hlt : j < s.size
    · have hlt' : (j : Int) < s.size := by omega
      have hd : decide (j < s.size) = true := decide_eq_true hlt
      cases hc : del s[j] with
      | false =>
        have HS := hide (wend_step s j hlt hc)
        obtain ⟨h1, h2, h3⟩ := del_false hc
        clear hc
        go_wp2_with fail
        go_quiet (fail)
        go_wp2_with fail
        go_roundg (gk - 1)
        case rel => exact ⟨j + 1, by omega, by omega, by have := HG.out; omega, hide (HS.out.trans hw.out), hide (HA.out.drewN _ |>.set_ 1 _), hide ((HO.out.drewN _).setCell (p := ⟨g, 1, none⟩) (.inl (by simp)) _)⟩
        case measure => have := HG.out; omega
      | true =>
        have HS := hide ((wend_stop s j hlt hc).symm.trans hw.out).symm
        rcases del_true hc with h1 | ⟨h1, h2⟩ | ⟨h1, h2, h3⟩
        all_goals
          clear hc
          go_wp2_with fail
          go_quiet (fail)
          go_wp2_with fail
          go_quiet (fail)
          go_wp2_with fail
          go_ret
          exact word_end HS.out ((HA.out.drewN _).drewN _) ((HO.out.drewN _).drewN _)
    · have hlt' : ¬ (j : Int) < s.size := by omega
      have hd : decide (j < s.size) = false := decide_eq_false hlt
      have HS := hide ((wend_end s j (by omega)).symm.trans hw.out).symm
      go_wp2_with fail
      go_quiet (fail)
      go_wp2_with fail
      go_quiet (fail)
      go_wp2_with fail
      go_ret
      exact word_end HS.out ((HA.out.drewN _).drewN _) ((HO.out.drewN _).drewN _)
end
section
open Go.RowKit Go.Deep

def digB (c : UInt8) : Bool := decide (48 ≤ c.toNat) && decide (c.toNat ≤ 57)
/-- On from u, digit by digit; none: too great. -/
def accN : List UInt8 → Nat → Option Nat
  | [], u => some u
  | c :: r, u => if 1844674407370955161 < u ∨ (u = 1844674407370955161 ∧ 5 < c.toNat - 48) then none else accN r (u * 10 + (c.toNat - 48))
/-- The number and the code of a text. -/
def numR (l : List UInt8) : Nat × Nat :=
  if l = [] then (0, 3) else if l.all digB = false then (0, 3) else if l.head? = some 48 ∧ 1 < l.length then (0, 3) else
    match accN l 0 with
    | none => (0, 5)
    | some u => (u, 0)
theorem accN_lt : ∀ (l : List UInt8) (u v : Nat), l.all digB = true → u < 18446744073709551616 → accN l u = some v → v < 18446744073709551616
  | [], u, v, _, hu, h => by simp [accN] at h; omega
  | c :: r, u, v, hd, hu, h => by
    rw [accN] at h
    split at h
    · cases h
    · rename_i hn
      simp only [List.all_cons, Bool.and_eq_true] at hd
      have h2 := hd.1
      unfold digB at h2
      simp only [Bool.and_eq_true, decide_eq_true_eq] at h2
      exact accN_lt r _ v hd.2 (by omega) h
theorem numR_lt (l : List UInt8) : (numR l).1 < 18446744073709551616 := by
  unfold numR
  split
  · decide
  · split
    · decide
    · split
      · decide
      · rename_i h1 h2 h3
        split
        · decide
        · rename_i u hu
          exact accN_lt l 0 u (by simpa using h2) (by decide) hu
def NumRPost (r : Nat × Nat) (w : World) (e : Ending) (w' : World) : Prop := e = .returned (.tuple #[.int .u64 r.1, .int .i64 r.2]) ∧ Only [] w w'
theorem numr {a b : Nat} {r : Nat × Nat} {w w' : World} (h : r = (a, b)) (ho : Only [] w w') : NumRPost r w (.returned (.tuple #[.int .u64 a, .int .i64 b])) w' := by
  subst h; exact ⟨rfl, ho⟩
theorem only_iter (w : World) (s : ByteArray) (p : Nat) : Only [] w (w.iter s p) := (Only.refl [] w).alloc _
theorem all_false (l : List UInt8) (i : Nat) (h : i < l.length) (hd : digB l[i] = false) : l.all digB = false := by
  rw [List.all_eq_false]
  exact ⟨l[i], List.getElem_mem h, by simp [hd]⟩
theorem all_true (l : List UInt8) (h : ∀ i (hi : i < l.length), digB l[i] = true) : l.all digB = true := by
  rw [List.all_eq_true]
  intro x hx
  obtain ⟨i, hi, rfl⟩ := List.getElem_of_mem hx
  exact h i hi
theorem empty_of (s : ByteArray) (h : s.size = 0) : s.data.toList = [] := by
  rw [List.eq_nil_iff_length_eq_zero, Array.length_toList]; exact h
theorem not_empty (s : ByteArray) (h : 0 < s.size) : s.data.toList ≠ [] := by
  intro e
  have : s.data.toList.length = 0 := by rw [e]; rfl
  rw [Array.length_toList] at this
  have h2 : s.data.size = s.size := rfl
  omega
theorem numR_empty (s : ByteArray) (h : s.size = 0) : numR s.data.toList = (0, 3) := by unfold numR; rw [if_pos (empty_of s h)]
theorem numR_bad (s : ByteArray) (i : Nat) (h : i < s.size) (hd : digB s[i] = false) : numR s.data.toList = (0, 3) := by
  unfold numR; rw [if_neg (not_empty s (by omega)), if_pos (all_false _ i (by simpa using h) hd)]
theorem numR_lead (s : ByteArray) (h : 1 < s.size) (hd : s[0].toNat = 48) : numR s.data.toList = (0, 3) := by
  have hl : s.data.toList.length = s.size := rfl
  have hh : s.data.toList.head? = some 48 := by
    rw [List.head?_eq_getElem?, List.getElem?_eq_getElem (by omega)]
    congr 1
    exact UInt8.toNat_inj.1 hd
  unfold numR
  split
  · rfl
  · split
    · rfl
    · rw [if_pos ⟨hh, by omega⟩]
theorem numR_go (s : ByteArray) (h : 0 < s.size) (hd : s.data.toList.all digB = true) (h0 : ¬ (s[0].toNat = 48 ∧ 1 < s.size)) :
    numR s.data.toList = match accN s.data.toList 0 with | none => (0, 5) | some u => (u, 0) := by
  have hl : s.data.toList.length = s.size := rfl
  unfold numR
  rw [if_neg (not_empty s h), if_neg (by simp [hd]), if_neg]
  rintro ⟨a, b⟩
  refine h0 ⟨?_, by omega⟩
  rw [List.head?_eq_getElem?, List.getElem?_eq_getElem (by omega)] at a
  simp only [Option.some.injEq] at a
  have : s[0] = 48 := a
  rw [this]
  rfl
end
section
open Go.RowKit Go.Deep

/-- All signs before k are digits. -/
def Digs (s : ByteArray) (k : Nat) : Prop := ∀ i (h : i < s.size), i < k → digB s[i] = true
def ReadLoop (w : World) (s : ByteArray) (a' : Act) (w' : World) : Prop :=
  ∃ (K U : Int) (u1 u2 u3 u4 u5 u8 u9 u10 u11 u12 u13 u14 u15 u16 u17 u18 u19 u20 u21 u22 u23 u24 u25 u26 u27 u28 u29 u30 u31 u32 u33 u34 u35 u36 u37 u38 u39 u40 u41 u42 u43 u44 u45 u46 u47 u48 u49 u50 u51 u52 u53 u54 u55 : Value), a' = ⟨#[.string s, u1, u2, u3, u4, u5, .int .u64 U, .int .i64 K, u8, u9, u10, u11, u12, u13, u14, u15, u16, u17, u18, u19, u20, u21, u22, u23, u24, u25, u26, u27, u28, u29, u30, u31, u32, u33, u34, u35, u36, u37, u38, u39, u40, u41, u42, u43, u44, u45, u46, u47, u48, u49, u50, u51, u52, u53, u54, u55], []⟩ ∧ w' = w.iter s s.size ∧ ∃ k u : Nat, K = k ∧ U = u ∧ k ≤ s.size ∧ u < 18446744073709551616 ∧ Digs s s.size ∧ ¬ (1 < s.size ∧ s.data.toList.head? = some 48) ∧ accN (s.data.toList.drop k) u = accN s.data.toList 0

theorem toList_e (s : ByteArray) (h : s.size = 0) : s.toList.isEmpty = true := by rw [ByteArray.toList_eq, empty_of s h]; rfl
theorem toList_n (s : ByteArray) (h : 0 < s.size) : s.toList.isEmpty = false := by
  rw [ByteArray.toList_eq]
  cases hl : s.data.toList with
  | nil => exact absurd hl (not_empty s h)
  | cons _ _ => rfl
set_option maxRecDepth 100000 in
set_option maxHeartbeats 3200000 in
theorem num_read_empty (w : World) (s : ByteArray) (h0 : s.size = 0) :
    Calls Tryd.prog 105 #[.string s] w (NumRPost (numR s.data.toList) w) := by
  have HR := hide (numR_empty s h0)
  have he2 := toList_e s h0
  clear h0
  go_enter Tryd.func105, Tryd.ntmps105
  go_wp2_with fail
  refine wp_scope_jumps 0 (fun _ _ => False) (fun _ _ => 0) rfl ?_ ?_
  · go_wp2_with fail
    simp only [Exit.jump]
    refine bodyPost_ret (results_tmp2 rfl _ _ _) rfl ?_
    exact numr HR.out (Only.refl _ _)
  · intro a' w' h
    cases h
theorem digs_succ {s : ByteArray} {k : Nat} (h : Digs s k) (hk : k < s.size) (hd : digB s[k] = true) : Digs s (k + 1) := by
  intro i hi hik
  by_cases e : i = k
  · subst e; exact hd
  · exact h i hi (by omega)

theorem head_of {s : ByteArray} (hp : 0 < s.size) (h : ¬ (s[0].toNat = 48 ∧ 1 < s.size)) : ¬ (1 < s.size ∧ s.data.toList.head? = some 48) := by
  rintro ⟨a, b⟩
  refine h ⟨?_, a⟩
  rw [List.head?_eq_getElem?, List.getElem?_eq_getElem (by simpa using hp)] at b
  simp only [Option.some.injEq] at b
  have : s[0] = 48 := b
  rw [this]
  rfl
theorem of_head {s : ByteArray} (hp : 0 < s.size) (h : ¬ (1 < s.size ∧ s.data.toList.head? = some 48)) : ¬ (s[0].toNat = 48 ∧ 1 < s.size) := by
  rintro ⟨a, b⟩
  refine h ⟨b, ?_⟩
  rw [List.head?_eq_getElem?, List.getElem?_eq_getElem (by simpa using hp)]
  congr 1
  exact UInt8.toNat_inj.1 a
theorem decode_dig (s : ByteArray) (k : Nat) (h : k < s.size) (hd : digB s[k] = true) : Utf8.decode s k = (s[k].toNat, 1) := by
  refine decode_ascii s k h ?_
  simp [digB] at hd
  omega
theorem decode_bad (s : ByteArray) (k : Nat) (h : k < s.size) (hd : digB s[k] = false) : (Utf8.decode s k).1 < 48 ∨ 57 < (Utf8.decode s k).1 := by
  by_cases ha : s[k].toNat < 128
  · rw [decode_ascii s k h ha]
    simp [digB] at hd
    simp only
    omega
  · have := (decode_high s k h (by omega)).1
    omega

set_option maxRecDepth 100000 in
set_option maxHeartbeats 6400000 in
theorem num_read_some (w : World) (s : ByteArray) (hs : s.size ≤ maxLen) (hpos : 0 < s.size) :
    Calls Tryd.prog 105 #[.string s] w (NumRPost (numR s.data.toList) w) := by
  unfold maxLen at hs
  have he2 := toList_n s hpos
  go_enter Tryd.func105, Tryd.ntmps105
  go_wp2_with fail
  refine wp_scope_jumps 0 (ReadLoop w s) (fun a' _ => s.size - (intOf (a'.tmps.getD 7 undef)).toNat) rfl ?_ ?_
  · go_wp2_with fail
    go_loopg [5] s.size (fun gk r wr => ∃ k : Nat, k ≤ s.size ∧ gk + k = s.size ∧ Hid (Digs s k) ∧ wr = w.iter s k)
    case atStart => exact ⟨0, Nat.zero_le _, by omega, hide (fun i _ h => by omega), rfl⟩
    case round =>
      obtain ⟨k, hk, hgk, hdg, rfl⟩ := hrel
      have HG := hide hgk
      clear hgk
      by_cases hlt : k < s.size
      · have hnx : ∀ ty, (Instr.next (.pointer (some ⟨w.heap.size, 0, none⟩)) true ty).run Tryd.prog (w.iter s k) = _ := fun ty => run_next_any w s k ty hlt
        cases hd : digB s[k] with
        | true =>
          rw [decode_dig s k hlt hd] at hnx
          have hc1 : 48 ≤ s[k].toNat := by simp [digB] at hd; omega
          have hc2 : s[k].toNat ≤ 57 := by simp [digB] at hd; omega
          have hc1' : (48 : Int) ≤ s[k].toNat := by omega
          have hc2' : (s[k].toNat : Int) ≤ 57 := by omega
          have HS := hide (digs_succ hdg.out hlt hd)
          clear hd
          go_wp2_with fail
          go_roundg (gk - 1)
          case rel => exact ⟨k + 1, by omega, by have := HG.out; omega, HS, rfl⟩
          case measure => have := HG.out; omega
        | false =>
          have hb := decode_bad s k hlt hd
          have HR := hide (numR_bad s k hlt hd)
          have hr := decode_le s k
          clear hd
          generalize Utf8.decode s k = d at *
          obtain ⟨r, n⟩ := d
          simp only at hb hr hnx
          rcases hb with hb | hb
          · have hb' : (r : Int) < 48 := by omega
            go_wp2_with fail
            simp only [Exit.jump]
            refine bodyPost_ret (results_tmp2 rfl _ _ _) rfl ?_
            exact numr HR.out (only_iter w s _)
          · have hb' : (57 : Int) < r := by omega
            have hb2 : ¬ (r : Int) < 48 := by omega
            go_wp2_with fail
            simp only [Exit.jump]
            refine bodyPost_ret (results_tmp2 rfl _ _ _) rfl ?_
            exact numr HR.out (only_iter w s _)
      · obtain rfl : k = s.size := by omega
        have hnx : ∀ ty, (Instr.next (.pointer (some ⟨w.heap.size, 0, none⟩)) true ty).run Tryd.prog (w.iter s s.size) = _ := fun ty => run_next_end w s s.size ty hlt
        have HALL := hide (all_true s.data.toList fun i hi => hdg.out i (by simpa using hi) (by simpa using hi))
        by_cases hlead : s[0].toNat = 48 ∧ 1 < s.size
        · obtain ⟨h1, h2⟩ := hlead
          have HR := hide (numR_lead s h2 h1)
          have h1' : ((s[0].toNat : Int) == 48) = true := by rw [beq_iff_eq]; omega
          have h2' : (1 : Int) < s.size := by omega
          clear h1
          go_wp2_with fail
          simp only [Exit.jump]
          refine bodyPost_ret (results_tmp2 rfl _ _ _) rfl ?_
          exact numr HR.out (only_iter w s _)
        · have HGO := hide (numR_go s hpos HALL.out hlead)
          have HDG := hide hdg.out
          have HLD := hide (head_of hpos hlead)
          have HACC := hide (show accN (s.data.toList.drop 0) 0 = accN s.data.toList 0 from rfl)
          have hlt0 : 0 < s.size := hpos
          have hltI : (0 : Int) < s.size := by omega
          have hb2 : ((0 : Int) == (s.size : Int)) = false := by rw [beq_eq_false_iff_ne]; omega
          have HDR := hide (drop_at s 0 hpos)
          have HC := hdg.out 0 hpos hpos
          have hc1 : 48 ≤ s[0].toNat := by simp [digB] at HC; omega
          have hc2 : s[0].toNat ≤ 57 := by simp [digB] at HC; omega
          have hc1' : (48 : Int) ≤ s[0].toNat := by omega
          have hc2' : (s[0].toNat : Int) ≤ 57 := by omega
          have HN := hide (show accN (s.data.toList.drop (0 + 1)) (s[0].toNat - 48) = accN s.data.toList 0 from by rw [← HACC.out, HDR.out, accN, if_neg (by omega)]; simp only [Nat.zero_mul, Nat.zero_add])
          clear HC
          by_cases h1 : s[0].toNat = 48
          · have h1' : ((s[0].toNat : Int) == 48) = true := by rw [beq_iff_eq]; omega
            have h2' : ¬ (1 : Int) < s.size := by omega
            clear h1 hlead
            go_wp2_with fail
            go_step3
            go_wp2_with fail
            go_step3
            exact ⟨rfl, _, _, _, _, _, _, _, _, _, _, _, _, _, _, _, _, _, _, _, _, _, _, _, _, _, _, _, _, _, _, _, _, _, _, _, _, _, _, _, _, _, _, _, _, _, _, _, _, _, _, _, _, _, _, _, rfl, rfl, 1, s[0].toNat - 48, by omega, by omega, by omega, by omega, HDG.out, HLD.out, HN.out⟩
          · have h1' : ((s[0].toNat : Int) == 48) = false := by rw [beq_eq_false_iff_ne]; omega
            clear h1 hlead
            go_wp2_with fail
            go_step3
            go_wp2_with fail
            go_step3
            exact ⟨rfl, _, _, _, _, _, _, _, _, _, _, _, _, _, _, _, _, _, _, _, _, _, _, _, _, _, _, _, _, _, _, _, _, _, _, _, _, _, _, _, _, _, _, _, _, _, _, _, _, _, _, _, _, _, _, _, rfl, rfl, 1, s[0].toNat - 48, by omega, by omega, by omega, by omega, HDG.out, HLD.out, HN.out⟩
  · rintro a' w' ⟨K, U, u1, u2, u3, u4, u5, u8, u9, u10, u11, u12, u13, u14, u15, u16, u17, u18, u19, u20, u21, u22, u23, u24, u25, u26, u27, u28, u29, u30, u31, u32, u33, u34, u35, u36, u37, u38, u39, u40, u41, u42, u43, u44, u45, u46, u47, u48, u49, u50, u51, u52, u53, u54, u55, rfl, rfl, k, u, rfl, rfl, hk, hu, hdg, hld, hacc⟩
    have HDG := hide hdg
    have HLD := hide hld
    have HACC := hide hacc
    have HALL := hide hdg
    have HGO := hide (numR_go s hpos (all_true s.data.toList fun i hi => hdg i (by simpa using hi) (by simpa using hi)) (of_head hpos hld))
    clear hdg hld hacc
    by_cases hke : k = s.size
    · have HR := hide (show numR s.data.toList = (u, 0) from by rw [HGO.out, ← HACC.out, hke, show List.drop s.size s.data.toList = [] from List.drop_of_length_le (Nat.le_of_eq rfl)]; rfl)
      have hb2 : ((k : Int) == (s.size : Int)) = true := by rw [beq_iff_eq]; omega
      clear hke
      go_wp2_with fail
      simp only [Exit.jump]
      refine bodyPost_ret (results_tmp2 rfl _ _ _) rfl ?_
      exact numr HR.out (only_iter w s s.size)
    · have hlt : k < s.size := by omega
      have hlt' : (k : Int) < s.size := by omega
      have hb2 : ((k : Int) == (s.size : Int)) = false := by rw [beq_eq_false_iff_ne]; omega
      have HDR := hide (drop_at s k hlt)
      have HC := HALL.out k hlt hlt
      have hc1 : 48 ≤ s[k].toNat := by simp [digB] at HC; omega
      have hc2 : s[k].toNat ≤ 57 := by simp [digB] at HC; omega
      have hc1' : (48 : Int) ≤ s[k].toNat := by omega
      have hc2' : (s[k].toNat : Int) ≤ 57 := by omega
      clear HC hke
      by_cases h1 : 1844674407370955161 < u
      · have HR := hide (show numR s.data.toList = (0, 5) from by rw [HGO.out, ← HACC.out, HDR.out, accN, if_pos (.inl h1)])
        have h1' : (1844674407370955161 : Int) < u := by omega
        clear h1
        go_wp2_with fail
        simp only [Exit.jump]
        refine bodyPost_ret (results_tmp2 rfl _ _ _) rfl ?_
        exact numr HR.out (only_iter w s s.size)
      · have h1' : ¬ (1844674407370955161 : Int) < u := by omega
        by_cases h2 : u = 1844674407370955161
        · have HU := hide h2
          have h2' : ((u : Int) == 1844674407370955161) = true := by rw [beq_iff_eq]; omega
          by_cases h3 : 53 < s[k].toNat
          · have HR := hide (show numR s.data.toList = (0, 5) from by rw [HGO.out, ← HACC.out, HDR.out, accN, if_pos (.inr ⟨HU.out, by omega⟩)])
            have h3' : (5 : Int) < s[k].toNat - 48 := by omega
            clear h1 h2 h3
            go_wp2_with fail
            simp only [Exit.jump]
            refine bodyPost_ret (results_tmp2 rfl _ _ _) rfl ?_
            exact numr HR.out (only_iter w s s.size)
          · have HN := hide (show accN (s.data.toList.drop (k + 1)) (u * 10 + (s[k].toNat - 48)) = accN s.data.toList 0 from by rw [← HACC.out, HDR.out, accN, if_neg (by omega)])
            have h3' : ¬ (5 : Int) < s[k].toNat - 48 := by omega
            have hlim : u * 10 + (s[k].toNat - 48) < 18446744073709551616 := by omega
            clear h1 h2 h3
            go_wp2_with fail
            go_step3
            refine ⟨rfl, ⟨_, _, _, _, _, _, _, _, _, _, _, _, _, _, _, _, _, _, _, _, _, _, _, _, _, _, _, _, _, _, _, _, _, _, _, _, _, _, _, _, _, _, _, _, _, _, _, _, _, _, _, _, _, _, _, rfl, rfl, k + 1, u * 10 + (s[k].toNat - 48), by omega, by omega, by omega, hlim, HDG.out, HLD.out, HN.out⟩, ?_⟩
            simp [intOf]
            omega
        · have HN := hide (show accN (s.data.toList.drop (k + 1)) (u * 10 + (s[k].toNat - 48)) = accN s.data.toList 0 from by rw [← HACC.out, HDR.out, accN, if_neg (by omega)])
          have h2' : ((u : Int) == 1844674407370955161) = false := by rw [beq_eq_false_iff_ne]; omega
          have hlim : u * 10 + (s[k].toNat - 48) < 18446744073709551616 := by omega
          have hu1 : (u : Int) ≤ 1844674407370955160 := by omega
          clear h1 h2
          go_wp2_with fail
          go_step3
          refine ⟨rfl, ⟨_, _, _, _, _, _, _, _, _, _, _, _, _, _, _, _, _, _, _, _, _, _, _, _, _, _, _, _, _, _, _, _, _, _, _, _, _, _, _, _, _, _, _, _, _, _, _, _, _, _, _, _, _, _, _, rfl, rfl, k + 1, u * 10 + (s[k].toNat - 48), by omega, by omega, by omega, hlim, HDG.out, HLD.out, HN.out⟩, ?_⟩
          simp [intOf]
          omega
end
section
open Go.RowKit Go.Deep

theorem num_read (w : World) (s : ByteArray) (hs : s.size ≤ 1000000) : Calls Tryd.prog 105 #[.string s] w (NumRPost (numR s.data.toList) w) := by
  rcases Nat.eq_zero_or_pos s.size with h | h
  · exact num_read_empty w s h
  · exact num_read_some w s (by unfold maxLen; omega) h

def hexB (c : UInt8) : Bool := decide (0 ≤ signV c.toNat)
def nib (c : UInt8) : Nat := (signV c.toNat).toNat
def hexP : List UInt8 → List UInt8
  | a :: b :: r => UInt8.ofNat (16 * nib a + nib b) :: hexP r
  | _ => []
def hexR (l : List UInt8) : List UInt8 × Nat := if l.all hexB = false then ([], 3) else if l.length % 2 = 1 then ([], 4) else (hexP l, 0)
theorem nib_lt (c : UInt8) : nib c < 16 := by unfold nib signV; split <;> (try split) <;> omega
theorem sign_nib {c : UInt8} (h : hexB c = true) : signV c.toNat = (nib c : Nat) := by
  unfold hexB at h
  unfold nib
  have := of_decide_eq_true h
  omega
theorem sign_low {r : Int} (h : 0 ≤ signV r) : 48 ≤ r ∧ r ≤ 102 := by unfold signV at h; split at h <;> (try split at h) <;> omega
def Hexs (s : ByteArray) (k : Nat) : Prop := ∀ i (h : i < s.size), i < k → hexB s[i] = true
theorem hexs_succ {s : ByteArray} {k : Nat} (h : Hexs s k) (hk : k < s.size) (hd : hexB s[k] = true) : Hexs s (k + 1) := by
  intro i hi hik
  by_cases e : i = k
  · subst e; exact hd
  · exact h i hi (by omega)
theorem decode_hex (s : ByteArray) (k : Nat) (h : k < s.size) (hd : hexB s[k] = true) : Utf8.decode s k = (s[k].toNat, 1) := by
  refine decode_ascii s k h ?_
  have := sign_low (of_decide_eq_true hd)
  omega
theorem decode_nohex (s : ByteArray) (k : Nat) (h : k < s.size) (hd : hexB s[k] = false) : signV (Utf8.decode s k).1 < 0 := by
  by_cases ha : s[k].toNat < 128
  · rw [decode_ascii s k h ha]
    have := of_decide_eq_false hd
    simp only
    omega
  · have h1 := (decode_high s k h (by omega)).1
    by_cases h2 : 0 ≤ signV (Utf8.decode s k).1
    · have := sign_low h2
      omega
    · omega
theorem hexR_bad (s : ByteArray) (i : Nat) (h : i < s.size) (hd : hexB s[i] = false) : hexR s.data.toList = ([], 3) := by
  unfold hexR
  rw [if_pos]
  rw [List.all_eq_false]
  exact ⟨s[i], (by rw [Array.mem_toList_iff]; exact Array.getElem_mem (by simpa using h)), by simp [hd]⟩
theorem hexs_all {s : ByteArray} (h : Hexs s s.size) : s.data.toList.all hexB = true := by
  rw [List.all_eq_true]
  intro x hx
  obtain ⟨i, hi, rfl⟩ := List.getElem_of_mem hx
  exact h i (by simpa using hi) (by simpa using hi)
theorem hexR_odd {s : ByteArray} (h : Hexs s s.size) (ho : s.size % 2 = 1) : hexR s.data.toList = ([], 4) := by
  unfold hexR
  rw [if_neg (by rw [hexs_all h]; simp), if_pos (by rw [Array.length_toList]; exact ho)]
theorem hexR_even {s : ByteArray} (h : Hexs s s.size) (ho : s.size % 2 = 0) : hexR s.data.toList = (hexP s.data.toList, 0) := by
  unfold hexR
  rw [if_neg (by rw [hexs_all h]; simp), if_neg (by rw [Array.length_toList]; show ¬ s.size % 2 = 1; omega)]
theorem hexP_append : ∀ (l m : List UInt8), l.length % 2 = 0 → hexP (l ++ m) = hexP l ++ hexP m
  | [], m, _ => rfl
  | [a], m, h => by simp at h
  | a :: b :: r, m, h => by
    simp only [List.cons_append, hexP]
    rw [hexP_append r m (by simp at h; omega)]
theorem hexP_take (s : ByteArray) (j : Nat) (h : 2 * j + 1 < s.size) : hexP (s.data.toList.take (2 * (j + 1))) = hexP (s.data.toList.take (2 * j)) ++ [UInt8.ofNat (16 * nib s[2 * j] + nib s[2 * j + 1])] := by
  have hl : s.data.toList.length = s.size := rfl
  have e : s.data.toList.take (2 * (j + 1)) = s.data.toList.take (2 * j) ++ [s[2 * j], s[2 * j + 1]] := by
    rw [show 2 * (j + 1) = 2 * j + 1 + 1 by omega, List.take_succ_eq_append_getElem (by omega), List.take_succ_eq_append_getElem (by omega), List.append_assoc]
    rfl
  rw [e, hexP_append _ _ (by rw [List.length_take]; omega)]
  rfl
/-- Handed back: bytes in a slice of the call's own, and a code. -/
def BytsPost (r : List UInt8 × Nat) (w : World) (e : Ending) (w' : World) : Prop :=
  ∃ v, e = .returned (.tuple #[v, .int .i64 r.2]) ∧ Only [] w w' ∧ ∀ N : List Nat, (∀ x ∈ N, x < w.heap.size) → Rd w' N v (ints .u8 (byts r.1))
theorem byts_nil {r : List UInt8 × Nat} {c : Nat} {w w' : World} (h : r = ([], c)) (ho : Only [] w w') : BytsPost r w (.returned (.tuple #[.slice none 0 0, .int .i64 c])) w' := by
  subst h; exact ⟨_, rfl, ho, fun N _ => Rd.nil w' N⟩
end
end Go.Proofs.YtfipdjlalfpbnaaDoor

/-
  Walks and plain words (texts Mem, App, Sl, Copy, Sls, Tm1). No condition beyond those that each theorem states.
-/
import Derived.WalkKit
import Derived.WalkSpells
import Derived.ProofKit
import Derived.Below
import Derived.Laws.OwnMore
import Derived.Laws.Rows
import Derived.Deep.Draws
import Derived.Deep.QuietTactic
import Derived.Laws.IdiomCopy
import Derived.BigQuiet
import Derived.RegionTactic
import Derived.BigRegion
import Derived.Outline
import Derived.Deep.RegionHeld3
import Derived.Deep.DeepFit
import Derived.Deep.DeepMust
import Derived.WalkLawsBesides
import Derived.Laws.BitsAllLaws
import Derived.Laws.BitsLemmas
import Derived.Deep.OwnRows
import Derived.Deep.RegionWith
import Derived.Deep.RegionLaw
import Derived.Deep.DeepCutAuto
import Derived.Deep.CutBlock
import Derived.Deep.AppendLies
import Derived.Maps.AppendAt
import Derived.ScopeJumps
import Derived.OwnWalk
import Derived.Lib.SliceRun
import Derived.Laws.BytesString
import Derived.Laws.IdiomStrings
import Derived.Lib.BufferRead
import Derived.Laws.CopyOwn
import Derived.OpenShut
import Derived.Deep.Slices
import Derived.Deep.Fields
import Derived.ChangeSame
import Derived.Test.YtcokjoidpnfjhaaGreatDoorChecked
namespace Go.Proofs.YtcokjoidpnfjhaaGreatDoor
section
open Go.RowKit

theorem hide {p : Prop} (h : p) : Hid p := h
def Blk (w : World) (g : Nat) (t : TypeId) (cs : Array Value) : Prop := w.heap[g]? = some (.cells cs t (0, 0))

section
variable {w w' : World} {g : Nat} {t : TypeId} {cs : Array Value}
theorem Blk.lt (h : Blk w g t cs) : g < w.heap.size := by
  rcases Nat.lt_or_ge g w.heap.size with hlt | hge
  · exact hlt
  · unfold Blk at h; rw [Array.getElem?_eq_none hge] at h; cases h
theorem Blk.cell (h : Blk w g t cs) (i : Nat) : w.cell? ⟨g, i, none⟩ = cs[i]? := cell_of_row w g i cs t (0, 0) h
theorem Blk.frozen (h : Blk w g t cs) (i : Nat) : w.frozen? ⟨g, i, none⟩ = false := by
  unfold Blk at h
  simp [World.frozen?, h]
theorem Blk.new (w : World) (t : TypeId) (cs : Array Value) : Blk (w.alloc (.cells cs t)) w.heap.size t cs := heap_alloc_new w _
theorem Blk.drew (h : Blk w g t cs) : Blk w.drew g t cs := h
theorem Blk.drewN (h : Blk w g t cs) (n : Nat) : Blk (w.drewN n) g t cs := h
theorem Blk.alloc (h : Blk w g t cs) (o : Obj) : Blk (w.alloc o) g t cs := (Below.heap_alloc w o g h.lt).trans h
theorem Blk.set_ (h : Blk w g t cs) (i : Nat) (u : Value) : Blk (w.setCell ⟨g, i, none⟩ u) g t (cs.setIfInBounds i u) := by
  unfold Blk at h ⊢
  simp [World.setCell, Array.getElem?_modify, h]
theorem Blk.far (h : Blk w g t cs) {p : Addr} (hp : g ≠ p.block) (u : Value) : Blk (w.setCell p u) g t cs := (Below.heap_setCell w p u g hp).trans h
theorem Blk.below {B : Nat} (h : Blk w g t cs) (hb : Below B w w') (hg : g < B) : Blk w' g t cs := (hb.block g hg).trans h
theorem Blk.grown {row : Option Nat} (h : Blk w g t cs) (hb : w.grownBy w' row) (hg : some g ≠ row) : Blk w' g t cs := (hb.block g h.lt hg).trans h
end

/-- Of the blocks that were there, none but those of S has turned. -/
structure Only (S : List Nat) (w w' : World) : Prop where
  os : w'.os = w.os
  tape : w'.tape = w.tape
  output : w'.output = w.output
  size : w.heap.size ≤ w'.heap.size
  block : ∀ k, k < w.heap.size → k ∉ S → w'.heap[k]? = w.heap[k]?

section
variable {S : List Nat} {a b w w' : World}
theorem Only.refl (S : List Nat) (w : World) : Only S w w := ⟨rfl, rfl, rfl, Nat.le_refl _, fun _ _ _ => rfl⟩
theorem Only.trans (h : Only S a b) (k : Only S b w) : Only S a w :=
  ⟨k.os.trans h.os, k.tape.trans h.tape, k.output.trans h.output, Nat.le_trans h.size k.size, fun i hi hn => (k.block i (Nat.lt_of_lt_of_le hi h.size) hn).trans (h.block i hi hn)⟩
theorem Only.mono {S' : List Nat} (h : Only S a b) (hs : ∀ x ∈ S, x ∈ S' ∨ a.heap.size ≤ x) : Only S' a b :=
  ⟨h.os, h.tape, h.output, h.size, fun i hi hn => h.block i hi (fun hx => (hs i hx).elim hn (by omega))⟩
theorem Only.drew (h : Only S a w) : Only S a w.drew := ⟨h.os, h.tape, h.output, h.size, h.block⟩
theorem Only.drewN (h : Only S a w) (n : Nat) : Only S a (w.drewN n) := ⟨h.os, h.tape, h.output, h.size, h.block⟩
theorem Only.alloc (h : Only S a w) (o : Obj) : Only S a (w.alloc o) :=
  ⟨h.os, h.tape, h.output, Nat.le_trans h.size (by simp), fun i hi hn => (Below.heap_alloc w o i (Nat.lt_of_lt_of_le hi h.size)).trans (h.block i hi hn)⟩
theorem Only.setCell (h : Only S a w) {p : Addr} (hp : p.block ∈ S ∨ a.heap.size ≤ p.block) (u : Value) : Only S a (w.setCell p u) :=
  ⟨h.os, h.tape, h.output, by simpa [World.setCell] using h.size, fun i hi hn => (Below.heap_setCell w p u i (by
    rintro rfl
    rcases hp with hp | hp
    · exact hn hp
    · omega)).trans (h.block i hi hn)⟩
theorem Only.grown (h : Only S a w) {row : Option Nat} (hg : w.grownBy w' row) (hr : ∀ k, row = some k → k ∈ S ∨ a.heap.size ≤ k) : Only S a w' :=
  ⟨hg.os.trans h.os, hg.tape.trans h.tape, hg.output.trans h.output, Nat.le_trans h.size hg.size, fun i hi hn => (hg.block i (Nat.lt_of_lt_of_le hi h.size) (fun e => by
    rcases hr i e.symm with hx | hx
    · exact hn hx
    · omega)).trans (h.block i hi hn)⟩
theorem Only.below {B : Nat} (h : Only S a w) (hs : ∀ x ∈ S, B ≤ x) (hB : B ≤ a.heap.size) : Below B a w :=
  ⟨h.os, h.tape, h.output, h.size, fun i hi => h.block i (by omega) (fun hx => by have := hs i hx; omega)⟩
theorem Blk.only {g : Nat} {t : TypeId} {cs : Array Value} (h : Blk a g t cs) (ho : Only S a w) (hg : g ∉ S) : Blk w g t cs := (ho.block g h.lt hg).trans h
end

/-- Cells written one behind the other. -/
def wr (cs : Array Value) : Nat → List Value → Array Value
  | _, [] => cs
  | o, v :: r => wr (cs.setIfInBounds o v) (o + 1) r
theorem wr_get : ∀ (vs : List Value) (cs : Array Value) (o i : Nat), o + vs.length ≤ cs.size → (wr cs o vs)[i]? = if o ≤ i ∧ i < o + vs.length then vs[i - o]? else cs[i]?
  | [], cs, o, i, _ => by rw [wr, if_neg (by simp)]
  | v :: r, cs, o, i, h => by
    rw [List.length_cons] at h
    rw [wr, wr_get r _ (o + 1) i (by simp; omega)]
    by_cases h1 : o = i
    · subst h1
      rw [if_neg (by omega), if_pos (by simp)]
      have ho : o < cs.size := by omega
      simp [ho]
    · by_cases h2 : o + 1 ≤ i ∧ i < o + 1 + r.length
      · rw [if_pos h2, if_pos (by simp; omega)]
        have : i - o = (i - (o + 1)) + 1 := by omega
        rw [this, List.getElem?_cons_succ]
      · rw [if_neg h2, if_neg (by simp; omega), Array.getElem?_setIfInBounds_ne h1]
theorem wr_whole (vs : List Value) (cs : Array Value) (h : vs.length = cs.size) : wr cs 0 vs = vs.toArray := by
  apply Array.ext_getElem?
  intro i
  rw [wr_get vs cs 0 i (by omega)]
  by_cases hi : i < vs.length
  · rw [if_pos (by omega)]; simp
  · rw [if_neg (by omega), Array.getElem?_eq_none (by omega)]; simp; omega
theorem Blk.setCells {g : Nat} {t : TypeId} : ∀ (vs : List Value) (o : Nat) {w : World} {cs : Array Value}, Blk w g t cs → Blk (w.setCells g o vs) g t (wr cs o vs)
  | [], _, _, _, h => h
  | _ :: r, _, _, _, h => Blk.setCells r _ (h.set_ _ _)
theorem Blk.setCells_whole {g : Nat} {t : TypeId} {w : World} {cs : Array Value} {vs : List Value} (h : Blk w g t cs) (hl : vs.length = cs.size) : Blk (w.setCells g 0 vs) g t vs.toArray := by
  rw [← wr_whole vs cs hl]
  exact h.setCells vs 0
theorem Blk.setCells_far {g p : Nat} {t : TypeId} {cs : Array Value} (hp : p ≠ g) : ∀ (o : Nat) (vs : List Value) {w : World}, Blk w g t cs → Blk (w.setCells p o vs) g t cs
  | _, [], _, h => h
  | _, _ :: r, _, h => Blk.setCells_far hp _ r (h.far (p := ⟨p, _, none⟩) (Ne.symm hp) _)
theorem Only.setCells {S : List Nat} {a : World} {g : Nat} (hg : g ∈ S ∨ a.heap.size ≤ g) : ∀ (o : Nat) (vs : List Value) {w : World}, Only S a w → Only S a (w.setCells g o vs)
  | _, [], _, h => h
  | _, _ :: r, _, h => Only.setCells hg _ r (h.setCell (p := ⟨g, _, none⟩) hg _)

theorem below_drewN {B : Nat} {a w : World} (h : Below B a w) (n : Nat) : Below B a (w.drewN n) := ⟨h.os, h.tape, h.output, h.size, h.block⟩
end
section
open Go.RowKit

theorem block_of_add (a : Addr) (n : Nat) : (a.add n).block = a.block := by unfold Addr.add; split <;> rfl
def Reads (w : World) (B size : Nat) (A : Option Addr) (n : Nat) (xs : List Value) : Prop :=
  xs.length = n * size ∧ (0 < n → ∃ ad, A = some ad ∧ ad.block < B ∧ ∀ j u, xs[j]? = some u → w.cell? (ad.add j) = some u)

section
variable {w w' : World} {B B' size n : Nat} {A : Option Addr} {xs : List Value}
theorem Reads.at_ {k : Nat} (h : Reads w B 1 A n xs) (hk : k < n) : ∃ ad u, A = some ad ∧ ad.block < B ∧ xs[k]? = some u ∧ w.cell? (ad.add k) = some u := by
  obtain ⟨ad, e, hb, hc⟩ := h.2 (by omega)
  have hl : k < xs.length := by have := h.1; omega
  exact ⟨ad, xs[k], e, hb, List.getElem?_eq_getElem hl, hc k _ (List.getElem?_eq_getElem hl)⟩
theorem Reads.keep (h : Reads w B size A n xs) (hk : ∀ p : Addr, p.block < B → w'.cell? p = w.cell? p) : Reads w' B size A n xs :=
  ⟨h.1, fun hn => by
    obtain ⟨ad, e, hb, hc⟩ := h.2 hn
    exact ⟨ad, e, hb, fun j u hu => (hk _ (by rw [block_of_add]; exact hb)).trans (hc j u hu)⟩⟩
theorem Reads.below (h : Reads w B size A n xs) (hb : Below B w w') : Reads w' B size A n xs := h.keep fun _ hp => hb.cell hp
theorem Reads.drew (h : Reads w B size A n xs) : Reads w.drew B size A n xs := h
theorem Reads.drewN (h : Reads w B size A n xs) (k : Nat) : Reads (w.drewN k) B size A n xs := h
theorem Reads.alloc (h : Reads w B size A n xs) (hB : B ≤ w.heap.size) (o : Obj) : Reads (w.alloc o) B size A n xs := h.keep fun p hp => World.cell?_alloc_lt w o p (by omega)
theorem Reads.setCell (h : Reads w B size A n xs) {p : Addr} (hB : B ≤ p.block) (u : Value) : Reads (w.setCell p u) B size A n xs :=
  h.keep fun q hq => World.cell?_setCell_other w p q u (fun e => by subst e; omega)
theorem Reads.grown (h : Reads w B size A n xs) {row : Option Nat} (hg : w.grownBy w' row) (hB : B ≤ w.heap.size) (hr : ∀ g, row = some g → B ≤ g) : Reads w' B size A n xs :=
  h.keep fun p hp => World.cell?_of_block (hg.block p.block (by omega) (fun e => by have := hr _ e.symm; omega))
theorem Reads.of_own {base : Nat} {e : TypeId} {c : Nat} (h : w.ownsRow base e size (.slice A n c) n xs) : Reads w w.heap.size size A n xs := by
  refine ⟨h.1, fun hn => ?_⟩
  obtain ⟨g, cap, hv, _, hlt⟩ := h.form hn
  have hA : A = some ⟨g, 0, none⟩ := by injection hv
  subst hA
  exact ⟨_, rfl, hlt, h.cells (g := g) rfl⟩
end

section
variable {P : Program} (w : World)

theorem run_append_of_nil (base : Nat) (t ty e : TypeId) (i : TypeInfo) (size : Nat) (ht : P.underlying t = some (.slice e)) (hi : P.info? e = some i)
    (v : Value) (n : Nat) (xs : List Value) (hown : w.ownsRow base e size v n xs) (c : Nat) : (Builtin.append_ #[t, t] ty #[v, .slice none 0 c]).run P w = .ok v w := by
  rcases hown.2 with ⟨rfl, rfl⟩ | ⟨g, cap, cur, rfl, _, _, hnc, _⟩
  · simp [Builtin.append_, run_underlying ht, sizeOf, typeInfo, hi, Builtin.lenOf, Builtin.firstCells]
  · simp [Builtin.append_, run_underlying ht, sizeOf, typeInfo, hi, Builtin.lenOf, Builtin.firstCells, hnc, storeCells]

theorem run_append_any (base : Nat) (t ty e : TypeId) (i : TypeInfo) (z : Value) (size bytes : Nat) (ht : P.underlying t = some (.slice e)) (hi : P.info? e = some i) (hz : i.zero = some z)
    (hsize : i.size = size) (hby : i.bytes = bytes) (hzs : z.cells.size = size) (hsz : 0 < size)
    (v : Value) (n : Nat) (xs : List Value) (hown : w.ownsRow base e size v n xs)
    (B : Nat) (A : Option Addr) (m c : Nat) (news : List Value) (hr : Reads w B size A m news) (h1 : ∀ u ∈ news, u.oneCell' = true)
    (h63 : n + m ≤ maxLen) (hbytes : (n + m) * bytes ≤ 140737488355328) (hbase : base ≤ w.heap.size) :
    ∃ v' w', (Builtin.append_ #[t, t] ty #[v, .slice A m c]).run P w = .ok v' w' ∧ w'.ownsRow base e size v' (n + m) (xs ++ news) ∧ w.grownBy w' v.ownBlock ∧
      (v'.ownBlock = v.ownBlock ∨ v'.ownBlock = some w.heap.size) := by
  rcases A with _ | ad
  · have hm : m = 0 := by
      rcases Nat.eq_zero_or_pos m with h0 | h0
      · exact h0
      · obtain ⟨ad, h, _⟩ := hr.2 h0
        cases h
    subst hm
    have hn : news = [] := List.eq_nil_of_length_eq_zero (by simpa using hr.1)
    subst hn
    exact ⟨v, w, run_append_of_nil w base t ty e i size ht hi v n xs hown c, by simpa using hown, World.grownBy.refl w _, .inl rfl⟩
  · have hcells : ∀ j u, news[j]? = some u → w.cell? (ad.add j) = some u := by
      intro j u hu
      rcases Nat.eq_zero_or_pos m with h0 | h0
      · subst h0
        have hn : news = [] := List.eq_nil_of_length_eq_zero (by simpa using hr.1)
        subst hn
        simp at hu
      · obtain ⟨ad', h, _, hc⟩ := hr.2 h0
        injection h with h
        subst h
        exact hc j u hu
    obtain ⟨v', w', hrun, h2, h3, _, h5⟩ := run_append_own_at (P := P) w base t ty e i z size bytes ht hi hz hsize hby hzs hsz v n xs hown ad m c news hr.1 hcells h1 h63 hbytes hbase
    exact ⟨v', w', hrun, h2, h3, h5⟩

theorem wp_append_any {o : Oper} {a : Act} {K : Act → World → Prop} {Q : Exit → Act → World → Prop} (s x : Operand) (t : TypeId)
    (ho : o.op = .call { callee := .builtin .append, args := #[s, x], argTypes := #[t, t] })
    (base : Nat) (e : TypeId) (i : TypeInfo) (z : Value) (size bytes : Nat) (ht : P.underlying t = some (.slice e)) (hi : P.info? e = some i) (hz : i.zero = some z)
    (hsize : i.size = size) (hby : i.bytes = bytes) (hzs : z.cells.size = size) (hsz : 0 < size)
    (v : Value) (n : Nat) (xs : List Value) (hs : a.eval s = v) (hown : w.ownsRow base e size v n xs)
    (B : Nat) (A : Option Addr) (m c : Nat) (news : List Value) (hx : a.eval x = .slice A m c) (hr : Reads w B size A m news) (h1 : ∀ u ∈ news, u.oneCell' = true)
    (h63 : n + m ≤ maxLen) (hbytes : (n + m) * bytes ≤ 140737488355328) (hbase : base ≤ w.heap.size)
    (h : ∀ v' w', w'.ownsRow base e size v' (n + m) (xs ++ news) → w.grownBy w' v.ownBlock → (v'.ownBlock = v.ownBlock ∨ v'.ownBlock = some w.heap.size) → K (a.put o.dst v') w') : o.wp P a w K Q := by
  obtain ⟨v', w', hrun, h2, h3, h4⟩ := run_append_any (P := P) w base t o.type e i z size bytes ht hi hz hsize hby hzs hsz v n xs hown B A m c news hr h1 h63 hbytes hbase
  unfold Oper.wp execOp
  simp only [ho, resolve, invoke, builtin, Sem.run_bind, Sem.run_pure, Result.andThen_ok, List.map_toArray, List.map_cons, List.map_nil, hs, hx, hrun]
  exact h v' w' h2 h3 h4

theorem wpList_append_any {ops : Array Oper} {rest : List Oper} {o : Oper} {a : Act} {Q : Exit → Act → World → Prop} (hgd : o.guard = none) (s x : Operand) (t : TypeId)
    (ho : o.op = .call { callee := .builtin .append, args := #[s, x], argTypes := #[t, t] })
    (base : Nat) (e : TypeId) (i : TypeInfo) (z : Value) (size bytes : Nat) (ht : P.underlying t = some (.slice e)) (hi : P.info? e = some i) (hz : i.zero = some z)
    (hsize : i.size = size) (hby : i.bytes = bytes) (hzs : z.cells.size = size) (hsz : 0 < size)
    (v : Value) (n : Nat) (xs : List Value) (hs : a.eval s = v) (hown : w.ownsRow base e size v n xs)
    (B : Nat) (A : Option Addr) (m c : Nat) (news : List Value) (hx : a.eval x = .slice A m c) (hr : Reads w B size A m news) (h1 : ∀ u ∈ news, u.oneCell' = true)
    (h63 : n + m ≤ maxLen) (hbytes : (n + m) * bytes ≤ 140737488355328) (hbase : base ≤ w.heap.size)
    (h : ∀ v' w', w'.ownsRow base e size v' (n + m) (xs ++ news) → w.grownBy w' v.ownBlock → (v'.ownBlock = v.ownBlock ∨ v'.ownBlock = some w.heap.size) → wpList P ops Q rest (a.put o.dst v') w') : wpList P ops Q (o :: rest) a w :=
  wpList_plain hgd fun _ hK => wp_append_any w s x t ho base e i z size bytes ht hi hz hsize hby hzs hsz v n xs hs hown B A m c news hx hr h1 h63 hbytes hbase fun v' w' h2 h3 h4 => hK _ _ (h v' w' h2 h3 h4)

theorem step_append_any {ops : Array Oper} {o : Oper} {a : Act} {K : Act → World → Prop} {Q : Exit → Act → World → Prop} {E : Prop} (hgd : o.guard = none) (s x : Operand) (t : TypeId)
    (ho : o.op = .call { callee := .builtin .append, args := #[s, x], argTypes := #[t, t] })
    (base : Nat) (e : TypeId) (i : TypeInfo) (z : Value) (size bytes : Nat) (ht : P.underlying t = some (.slice e)) (hi : P.info? e = some i) (hz : i.zero = some z)
    (hsize : i.size = size) (hby : i.bytes = bytes) (hzs : z.cells.size = size) (hsz : 0 < size)
    (v : Value) (n : Nat) (xs : List Value) (hs : a.eval s = v) (hown : w.ownsRow base e size v n xs)
    (B : Nat) (A : Option Addr) (m c : Nat) (news : List Value) (hx : a.eval x = .slice A m c) (hr : Reads w B size A m news) (h1 : ∀ u ∈ news, u.oneCell' = true)
    (h63 : n + m ≤ maxLen) (hbytes : (n + m) * bytes ≤ 140737488355328) (hbase : base ≤ w.heap.size)
    (h : ∀ v' w', w'.ownsRow base e size v' (n + m) (xs ++ news) → w.grownBy w' v.ownBlock → (v'.ownBlock = v.ownBlock ∨ v'.ownBlock = some w.heap.size) → K (a.put o.dst v') w') :
    if Region.wanted o (yielded ops a.tmps) = true then Oper.wp P o a w K Q else E := by
  have hw : Region.wanted o (yielded ops a.tmps) = true := by simp [Region.wanted, hgd]
  rw [if_pos hw]
  exact wp_append_any w s x t ho base e i z size bytes ht hi hz hsize hby hzs hsz v n xs hs hown B A m c news hx hr h1 h63 hbytes hbase h
end
end
section
open Go.RowKit

def Rd (w : World) (N : List Nat) (v : Value) (xs : List Value) : Prop :=
  ∃ (A : Option Addr) (cap : Nat), v = .slice A xs.length cap ∧ xs.length ≤ cap ∧ cap ≤ maxLen ∧
    (xs = [] ∨ ∃ g o, A = some ⟨g, o, none⟩ ∧ g ∉ N ∧ g < w.heap.size ∧ ∀ i x, xs[i]? = some x → w.cell? ⟨g, o + i, none⟩ = some x)

theorem add_mk (g o i : Nat) : (⟨g, o, none⟩ : Addr).add i = ⟨g, o + i, none⟩ := by
  unfold Addr.add
  split <;> simp_all

theorem cell_only {S : List Nat} {w w' : World} (ho : Only S w w') {a : Addr} (hb : a.block < w.heap.size) (hs : a.block ∉ S) : w'.cell? a = w.cell? a :=
  World.cell?_of_block (ho.block a.block hb hs)
section
variable {w w' : World} {N S : List Nat} {v : Value} {xs : List Value}
theorem Rd.nil (w : World) (N : List Nat) : Rd w N (.slice none 0 0) [] := ⟨none, 0, rfl, Nat.le_refl _, Nat.zero_le _, .inl rfl⟩
theorem Rd.only (h : Rd w N v xs) (ho : Only S w w') (hs : ∀ x ∈ S, x ∈ N) : Rd w' N v xs := by
  obtain ⟨A, cap, hv, hc, hm, h⟩ := h
  refine ⟨A, cap, hv, hc, hm, ?_⟩
  rcases h with h | ⟨g, o, hA, hg, hl, hcell⟩
  · exact .inl h
  · exact .inr ⟨g, o, hA, hg, Nat.lt_of_lt_of_le hl ho.size, fun i x hx => (cell_only ho hl (fun hh => hg (hs _ hh))).trans (hcell i x hx)⟩
theorem Rd.less {N' : List Nat} (h : Rd w N v xs) (hs : ∀ x ∈ N', x ∈ N) : Rd w N' v xs := by
  obtain ⟨A, cap, hv, hc, hm, h⟩ := h
  refine ⟨A, cap, hv, hc, hm, ?_⟩
  rcases h with h | ⟨g, o, hA, hg, hl, hcell⟩
  · exact .inl h
  · exact .inr ⟨g, o, hA, fun hh => hg (hs _ hh), hl, hcell⟩
theorem Rd.of_own {base e n : Nat} (h : w.ownsRow base e 1 v n xs) (hN : ∀ x ∈ N, x < base) : Rd w N v xs ∧ xs.length = n := by
  obtain ⟨h1, h2⟩ := h
  rw [Nat.mul_one] at h1
  refine ⟨?_, h1⟩
  rcases h2 with ⟨rfl, rfl⟩ | ⟨g, cap, cur, rfl, hg, hh, hnc, hm, hs, hx⟩
  · rw [List.length_eq_zero_iff] at h1
    subst h1
    exact Rd.nil w N
  · refine ⟨_, cap, by rw [h1], by omega, hm, .inr ⟨g, 0, rfl, fun hh => by have := hN g hh; omega, Blk.lt (t := e) (cs := cur) hh, fun i x hxi => ?_⟩⟩
    rw [Nat.zero_add, Blk.cell (t := e) (cs := cur) hh]
    rw [← hx, List.getElem?_take] at hxi
    split at hxi
    · simpa using hxi
    · cases hxi
theorem Rd.at_ {A : Option Addr} {n cap : Nat} (h : Rd w N (.slice A n cap) xs) : n = xs.length ∧ n ≤ cap ∧ cap ≤ maxLen ∧
    (∀ k x, xs[k]? = some x → ∃ g o, A = some ⟨g, o, none⟩ ∧ g ∉ N ∧ g < w.heap.size ∧ w.cell? ⟨g, o + k, none⟩ = some x) := by
  obtain ⟨A', cap', hv, hc, hm, h⟩ := h
  injection hv with h1 h2 h3
  subst h1 h2 h3
  refine ⟨rfl, hc, hm, fun k x hx => ?_⟩
  rcases h with h | ⟨g, o, hA, hg, hl, hcell⟩
  · subst h; simp at hx
  · exact ⟨g, o, hA, hg, hl, hcell k x hx⟩
theorem Rd.form (h : Rd w N v xs) : ∃ A cap, v = .slice A xs.length cap ∧ xs.length ≤ cap ∧ cap ≤ maxLen := by
  obtain ⟨A, cap, hv, hc, hm, _⟩ := h
  exact ⟨A, cap, hv, hc, hm⟩
theorem Rd.reads {A : Option Addr} {n cap : Nat} (h : Rd w N (.slice A n cap) xs) : Reads w w.heap.size 1 A n xs := by
  obtain ⟨h1, _, _, h2⟩ := h.at_
  refine ⟨by omega, fun hn => ?_⟩
  obtain ⟨g, o, hA, _, hl, _⟩ := h2 0 xs[0] (List.getElem?_eq_getElem (by omega))
  refine ⟨⟨g, o, none⟩, hA, hl, fun j u hu => ?_⟩
  obtain ⟨g', o', hA', _, _, hc⟩ := h2 j u hu
  rw [hA] at hA'
  injection hA' with hA'
  injection hA' with e1 e2
  subst e1 e2
  rw [add_mk]
  exact hc
/-- 's[1:]' -/
theorem Rd.tail {A : Option Addr} {n cap : Nat} {x : Value} (h : Rd w N (.slice A n cap) (x :: xs)) :
    ∃ g o, A = some ⟨g, o, none⟩ ∧ n = xs.length + 1 ∧ n ≤ cap ∧ w.cell? ⟨g, o, none⟩ = some x ∧ Rd w N (.slice (if cap = 1 then some ⟨g, o, none⟩ else some ⟨g, o + 1, none⟩) (n - 1) (cap - 1)) xs := by
  obtain ⟨h1, h2, h3, h4⟩ := h.at_
  obtain ⟨g, o, rfl, hg, hl, hc⟩ := h4 0 x rfl
  refine ⟨g, o, rfl, by simpa using h1, h2, hc, ?_⟩
  simp at h1
  refine ⟨(if cap = 1 then some ⟨g, o, none⟩ else some ⟨g, o + 1, none⟩), cap - 1, by rw [h1]; rfl, by omega, by omega, ?_⟩
  by_cases hx : xs = []
  · exact .inl hx
  · have : 0 < xs.length := List.length_pos_iff.2 hx
    refine .inr ⟨g, o + 1, by rw [if_neg (by omega)], hg, hl, fun i y hy => ?_⟩
    obtain ⟨g', o', hA', _, _, hc'⟩ := h4 (i + 1) y (by simpa using hy)
    injection hA' with hA'
    injection hA' with e1 e2
    subst e1 e2
    rw [Nat.add_assoc, Nat.add_comm 1 i]
    exact hc'
/-- 's[:m]' -/
theorem Rd.take {A : Option Addr} {n cap : Nat} (h : Rd w N (.slice A n cap) xs) (m : Nat) (hm : m ≤ n) : Rd w N (.slice A m cap) (xs.take m) := by
  obtain ⟨h1, h2, h3, h4⟩ := h.at_
  refine ⟨A, cap, by rw [List.length_take, Nat.min_eq_left (by omega)], by rw [List.length_take]; omega, h3, ?_⟩
  by_cases hx : xs = []
  · subst hx; exact .inl (by simp)
  · have : 0 < xs.length := List.length_pos_iff.2 hx
    obtain ⟨g, o, rfl, hg, hl, hc⟩ := h4 0 xs[0] (List.getElem?_eq_getElem this)
    refine .inr ⟨g, o, rfl, hg, hl, fun i y hy => ?_⟩
    rw [List.getElem?_take] at hy
    split at hy
    · obtain ⟨g', o', hA', _, _, hc'⟩ := h4 i y hy
      injection hA' with hA'
      injection hA' with e1 e2
      subst e1 e2
      exact hc'
    · cases hy
end

theorem own_block_ge {w : World} {base e size n : Nat} {v : Value} {xs : List Value} (h : w.ownsRow base e size v n xs) {j : Nat} (hj : v.ownBlock = some j) : base ≤ j := by
  rcases h.2 with ⟨h1, _⟩ | ⟨g3, cap3, cur, h1, hg3, _⟩
  · subst h1; cases hj
  · subst h1; injection hj with hj; subst hj; exact hg3

theorem own_form {w : World} {base e size n : Nat} {v : Value} {xs : List Value} (h : w.ownsRow base e size v n xs) : ∃ A c, v = .slice A n c ∧ n ≤ c ∧ c ≤ maxLen := by
  rcases h.2 with ⟨h1, h2⟩ | ⟨g3, cap3, cur, h1, hg3, _, h4, h5, _⟩
  · subst h1 h2; exact ⟨none, 0, rfl, Nat.le_refl _, Nat.zero_le _⟩
  · exact ⟨_, cap3, h1, h4, h5⟩
theorem reads_one (w : World) (e : TypeId) (x : Value) (B : Nat) (hB : w.heap.size < B) : Reads (w.alloc (.cells #[x] e)) B 1 (some ⟨w.heap.size, 0, none⟩) 1 [x] :=
  ⟨rfl, fun _ => ⟨_, rfl, hB, cell_one_new _ _ _⟩⟩

theorem own_only {S : List Nat} {w w' : World} {base e size n : Nat} {v : Value} {xs : List Value} (h : w.ownsRow base e size v n xs) (ho : Only S w w') (hS : ∀ x ∈ S, x < base) : w'.ownsRow base e size v n xs := by
  obtain ⟨h1, h2⟩ := h
  refine ⟨h1, ?_⟩
  rcases h2 with h2 | ⟨g, cap, cur, rfl, hg, hh, h3⟩
  · exact .inl h2
  · exact .inr ⟨g, cap, cur, rfl, hg, (ho.block g (Blk.lt (t := e) (cs := cur) hh) (fun hx => by have := hS g hx; omega)).trans hh, h3⟩

theorem rd_new (w : World) (e : TypeId) (N : List Nat) (xs : List Value) (hN : ∀ x ∈ N, x < w.heap.size) (hm : xs.length ≤ maxLen) : Rd (w.alloc (.cells xs.toArray e)) N (.slice (some ⟨w.heap.size, 0, none⟩) xs.length xs.length) xs :=
  ⟨_, _, rfl, Nat.le_refl _, hm, .inr ⟨w.heap.size, 0, rfl, fun h => by have := hN _ h; omega, by simp, fun i x hx => by
    rw [Nat.zero_add, (Blk.new w e xs.toArray).cell]; simpa using hx⟩⟩

def ints (k : IntKind) (xs : List Int) : List Value := xs.map (Value.int k)
theorem ints_get {k : IntKind} {xs : List Int} {i : Nat} {x : Int} (h : xs[i]? = some x) : (ints k xs)[i]? = some (.int k x) := by simp [ints, h]
theorem ints_length (k : IntKind) (xs : List Int) : (ints k xs).length = xs.length := by simp [ints]
theorem Rd.formi {w : World} {N : List Nat} {v : Value} {k : IntKind} {xs : List Int} (h : Rd w N v (ints k xs)) : ∃ A cap, v = .slice A xs.length cap ∧ xs.length ≤ cap ∧ cap ≤ maxLen := by
  obtain ⟨A, cap, hv, hc, hm⟩ := h.form
  rw [ints_length] at hv hc
  exact ⟨A, cap, hv, hc, hm⟩
/-- Bytes as integers. -/
def byts (l : List UInt8) : List Int := l.map fun b => (b.toNat : Int)
theorem byts_length (l : List UInt8) : (byts l).length = l.length := by simp [byts]
theorem byts_get {l : List UInt8} {i : Nat} {b : UInt8} (h : l[i]? = some b) : (byts l)[i]? = some (b.toNat : Int) := by simp [byts, h]
theorem byts_append (l m : List UInt8) : byts (l ++ m) = byts l ++ byts m := by simp [byts]
theorem Rd.formb {w : World} {N : List Nat} {v : Value} {k : IntKind} {l : List UInt8} (h : Rd w N v (ints k (byts l))) : ∃ A cap, v = .slice A l.length cap ∧ l.length ≤ cap ∧ cap ≤ maxLen := by
  obtain ⟨A, cap, hv, hc, hm⟩ := h.formi
  rw [byts_length] at hv hc
  exact ⟨A, cap, hv, hc, hm⟩
/-- 'string(b)' -/
theorem rd_string {P : Program} {w : World} {N : List Nat} {A : Option Addr} {n cap : Nat} {l : List UInt8} (h : Rd w N (.slice A n cap) (ints .u8 (byts l))) (src dst e : TypeId)
    (hs : P.underlying src = some (.slice e)) (he : P.underlying e = some (.int .u8)) (hd : P.underlying dst = some .string) : (convert src dst (.slice A n cap)).run P w = .ok (.string ⟨l.toArray⟩) w := by
  obtain ⟨h1, h2, h3, h4⟩ := h.at_
  rw [ints_length, byts_length] at h1
  subst h1
  cases A with
  | none =>
    have hl : l = [] := by
      cases l with
      | nil => rfl
      | cons y l =>
        obtain ⟨g, o, hA, _⟩ := h4 0 (.int .u8 (y.toNat : Int)) rfl
        cases hA
    subst hl
    exact Lib.run_convert_nil_bytes w src dst e cap hs he hd
  | some a =>
    refine run_convert_bytes_back w src dst e a cap l hs he hd fun j hj => ?_
    obtain ⟨g, o, hA, _, _, hc⟩ := h4 j (.int .u8 (l[j].toNat : Int)) (ints_get (byts_get (List.getElem?_eq_getElem hj)))
    injection hA with hA
    subst hA
    rw [add_mk]
    exact hc
end
section
open Go.RowKit

theorem madeCells_one (z : Value) (hz : z.cells = #[z]) (n : Nat) : madeCells z.cells n = (List.replicate n z).toArray := by
  rw [hz]
  apply Array.ext
  · simp [madeCells]
  · intro i h1 h2
    simp [madeCells, Nat.mod_one]

theorem run_make_row {P : Program} (w : World) (t e : TypeId) (i : TypeInfo) (z : Value) (ht : P.underlying t = some (.slice e)) (hi : P.info? e = some i) (hz : i.zero = some z) (hs : i.size = 1) (hc : z.cells = #[z])
    (kl kc : IntKind) (l c : Nat) (hlc : l ≤ c) (hbytes : i.bytes * c ≤ 281474976710656) (h63 : c ≤ 9223372036854775807) :
    (Instr.makeSlice t (.int kl (l : Int)) (.int kc (c : Int))).run P w = .ok (.slice (some ⟨w.heap.size, 0, none⟩) l c) (w.alloc (.cells (Array.replicate c z) e)) := by
  have hb' : (i.bytes : Int) * (c : Int) ≤ 281474976710656 := by
    have h : ((i.bytes * c : Nat) : Int) ≤ 281474976710656 := by omega
    rwa [Int.natCast_mul] at h
  have h := run_make (P := P) w t e i z ht hi hz kl kc l c (by omega) (by omega) hb' (by omega)
  rw [h, Int.toNat_natCast, Int.toNat_natCast, hs, Nat.mul_one, madeCells_one z hc, List.toArray_replicate]
end
section
open Go.RowKit Go.Deep

def RdS {α : Type} (k : Nat) (F : α → List Value) (w : World) (N : List Nat) (v : Value) (l : List α) : Prop :=
  ∃ (A : Option Addr) (cap : Nat), v = .slice A l.length cap ∧ l.length ≤ cap ∧ cap ≤ maxLen ∧
    (l = [] ∨ ∃ g o, A = some ⟨g, o, none⟩ ∧ g ∉ N ∧ g < w.heap.size ∧ ∀ i p, l[i]? = some p → ∀ j u, (F p)[j]? = some u → w.cell? ⟨g, o + (i * k + j), none⟩ = some u)

section
variable {α : Type} {k : Nat} {F : α → List Value} {w w' : World} {N S : List Nat} {v : Value} {l : List α}
theorem RdS.nil (w : World) (N : List Nat) : RdS k F w N (.slice none 0 0) [] := ⟨none, 0, rfl, Nat.le_refl _, Nat.zero_le _, .inl rfl⟩
theorem RdS.form (h : RdS k F w N v l) : ∃ A cap, v = .slice A l.length cap ∧ l.length ≤ cap ∧ cap ≤ maxLen := by
  obtain ⟨A, cap, hv, hc, hm, _⟩ := h
  exact ⟨A, cap, hv, hc, hm⟩
theorem RdS.only (h : RdS k F w N v l) (ho : Only S w w') (hs : ∀ x ∈ S, x ∈ N) : RdS k F w' N v l := by
  obtain ⟨A, cap, hv, hc, hm, h⟩ := h
  refine ⟨A, cap, hv, hc, hm, ?_⟩
  rcases h with h | ⟨g, o, hA, hg, hl, hcell⟩
  · exact .inl h
  · exact .inr ⟨g, o, hA, hg, Nat.lt_of_lt_of_le hl ho.size, fun i p hp j u hu => (cell_only ho hl (fun hh => hg (hs _ hh))).trans (hcell i p hp j u hu)⟩
/-- The address, once there is an element. -/
theorem RdS.addr {A : Option Addr} {n cap : Nat} (h : RdS k F w N (.slice A n cap) l) (h0 : 0 < l.length) : ∃ g o, A = some ⟨g, o, none⟩ ∧ g ∉ N ∧ g < w.heap.size := by
  obtain ⟨A', cap', hv, _, _, h⟩ := h
  injection hv with h1 h2 h3
  subst h1 h2 h3
  rcases h with h | ⟨g, o, hA, hg, hl, _⟩
  · subst h; simp at h0
  · exact ⟨g, o, hA, hg, hl⟩
theorem RdS.cell {g o n cap : Nat} (h : RdS k F w N (.slice (some ⟨g, o, none⟩) n cap) l) {i : Nat} {p : α} (hp : l[i]? = some p) {j : Nat} {u : Value} (hu : (F p)[j]? = some u) : w.cell? ⟨g, o + (i * k + j), none⟩ = some u := by
  obtain ⟨A', cap', hv, _, _, h⟩ := h
  injection hv with h1 h2 h3
  rcases h with h | ⟨g', o', hA, _, _, hc⟩
  · subst h; simp at hp
  · rw [← h1] at hA
    injection hA with hA
    injection hA with e1 e2
    subst e1 e2
    exact hc i p hp j u hu
end

theorem flat_get {α β : Type} (F : α → List β) (k : Nat) (hk : ∀ p, (F p).length = k) : ∀ (l : List α) (i : Nat) (p : α), l[i]? = some p → ∀ j, j < k → (l.flatMap F)[i * k + j]? = (F p)[j]?
  | [], i, p, h, _, _ => by simp at h
  | x :: r, 0, p, h, j, hj => by
    simp at h
    subst h
    rw [List.flatMap_cons, Nat.zero_mul, Nat.zero_add, List.getElem?_append_left (by rw [hk]; exact hj)]
  | x :: r, i + 1, p, h, j, hj => by
    rw [List.getElem?_cons_succ] at h
    rw [List.flatMap_cons, List.getElem?_append_right (by rw [hk, Nat.succ_mul]; omega), hk, show (i + 1) * k + j - k = i * k + j by rw [Nat.succ_mul]; omega]
    exact flat_get F k hk r i p h j hj
theorem flat_len {α β : Type} (F : α → List β) (k : Nat) (hk : ∀ p, (F p).length = k) (l : List α) : (l.flatMap F).length = l.length * k := by
  induction l with
  | nil => simp
  | cons x r ih => rw [List.flatMap_cons, List.length_append, ih, hk, List.length_cons, Nat.succ_mul, Nat.add_comm]

theorem RdS.of_own {α : Type} {k : Nat} {F : α → List Value} {w : World} {N : List Nat} {v : Value} {l : List α} {base e n : Nat} (hk : ∀ p, (F p).length = k) (hk0 : 0 < k) (h : w.ownsRow base e k v n (l.flatMap F)) (hN : ∀ x ∈ N, x < base) : RdS k F w N v l ∧ l.length = n := by
  obtain ⟨h1, h2⟩ := h
  rw [flat_len F k hk] at h1
  have hn : l.length = n := Nat.eq_of_mul_eq_mul_right hk0 h1
  refine ⟨?_, hn⟩
  rcases h2 with ⟨rfl, rfl⟩ | ⟨g, cap, cur, rfl, hg, hh, hnc, hm, hs, hx⟩
  · rw [List.length_eq_zero_iff] at hn
    subst hn
    exact RdS.nil w N
  · refine ⟨_, cap, by rw [hn], by omega, hm, .inr ⟨g, 0, rfl, fun hh => by have := hN g hh; omega, Blk.lt (t := e) (cs := cur) hh, fun i p hp j u hu => ?_⟩⟩
    have hj : j < k := by
      have := (List.getElem?_eq_some_iff.1 hu).1
      rwa [hk] at this
    have hget := flat_get F k hk l i p hp j hj
    rw [hu, ← hx, List.getElem?_take] at hget
    rw [Nat.zero_add, Blk.cell (t := e) (cs := cur) hh]
    split at hget
    · simpa using hget
    · cases hget
end
section
open Go.RowKit

def kindV (c : Int) : Int :=
  if c = 48 then 1 else if c = 97 then 2 else if c = 110 then 3 else if c = 120 then 4 else if c = 112 then 5 else if c = 100 then 6
  else if c = 104 then 7 else if c = 107 then 8 else if c = 109 then 9 else if c = 115 then 10 else if c = 108 then 11 else 0
set_option maxHeartbeats 1600000 in
theorem kindOf_any (c : Int) (w : World) : Calls Tryz.prog 223 #[.int .u8 c] w fun e w' => e = .returned (.int .i64 (kindV c)) ∧ w = w' := by
  go_enter Tryz.func223, Tryz.ntmps223
  go_wp2
  all_goals
    go_ret
    exact ⟨by simp_all [kindV], rfl⟩

def numberedV (k : Int) : Bool := (k == 2) || (k == 3) || (k == 8) || (k == 10)
set_option maxHeartbeats 1600000 in
theorem numbered_any (k : Int) (w : World) : Calls Tryz.prog 185 #[.int .i64 k] w fun e w' => e = .returned (.bool (numberedV k)) ∧ w = w' := by
  go_enter Tryz.func185, Tryz.ntmps185
  go_wp2
  all_goals
    go_ret
    exact ⟨by simp_all [numberedV], rfl⟩

def allowedV (k n : Int) : Bool := if k = 2 then decide (n ≤ 4294967295) else if k = 8 then decide (1 ≤ n ∧ n ≤ 3) else true
set_option maxHeartbeats 1600000 in
theorem allowed_any (k n : Int) (w : World) : Calls Tryz.prog 186 #[.int .i64 k, .int .u64 n] w fun e w' => e = .returned (.bool (allowedV k n)) ∧ w = w' := by
  go_enter Tryz.func186, Tryz.ntmps186
  go_wp2
  all_goals
    go_ret
    exact ⟨by first | (simp_all [allowedV]; done) | (simp_all [allowedV]; omega), rfl⟩

def leastV (k : Int) : Int := if k = 5 then 1 else if k = 6 ∨ k = 8 ∨ k = 9 then 2 else if k = 10 then 3 else if k = 7 then 1 else 0
def mostV (k : Int) : Int := if k = 5 then 1 else if k = 6 ∨ k = 8 ∨ k = 9 then 2 else if k = 10 then 3 else if k = 7 then -1 else if k = 11 then -1 else 0
set_option maxHeartbeats 1600000 in
theorem arity_any (k : Int) (w : World) : Calls Tryz.prog 229 #[.int .i64 k] w fun e w' => e = .returned (.tuple #[.int .i64 (leastV k), .int .i64 (mostV k)]) ∧ w = w' := by
  go_enter Tryz.func229, Tryz.ntmps229
  go_wp2
  all_goals
    go_ret2
    exact ⟨by simp_all [leastV, mostV], rfl⟩

def fitsV (k c : Int) : Bool := decide (leastV k ≤ c) && (decide (mostV k < 0) || decide (c ≤ mostV k))
set_option maxHeartbeats 1600000 in
theorem fits_any (k c : Int) (w : World) : Calls Tryz.prog 187 #[.int .i64 k, .int .i64 c] w fun e w' => e = .returned (.bool (fitsV k c)) ∧ w = w' := by
  go_enter Tryz.func187, Tryz.ntmps187
  go_wp2_with (go_at_call 229; refine (arity_any _ _).mono ?_; rintro e w' ⟨rfl, rfl⟩)
  all_goals
    go_ret
    exact ⟨by first | (simp_all [fitsV]; done) | (simp_all [fitsV]; omega), rfl⟩

def signV (r : Int) : Int := if 48 ≤ r ∧ r ≤ 57 then r - 48 else if 97 ≤ r ∧ r ≤ 102 then r - 87 else -1
set_option maxHeartbeats 1600000 in
theorem sign_any (r : Int) (w : World) : Calls Tryz.prog 242 #[.int .i32 r] w fun e w' => e = .returned (.int .i64 (signV r)) ∧ w = w' := by
  by_cases h1 : 48 ≤ r ∧ r ≤ 57
  · obtain ⟨h1, h2⟩ := h1
    have hv : signV r = r - 48 := by unfold signV; rw [if_pos ⟨h1, h2⟩]
    have HV := hide hv
    clear hv
    go_enter Tryz.func242, Tryz.ntmps242
    go_wp2
    all_goals
      go_ret
      exact ⟨(by rw [HV.out]; rfl), rfl⟩
  · by_cases h2 : 97 ≤ r ∧ r ≤ 102
    · obtain ⟨h2, h3⟩ := h2
      have hv : signV r = r - 97 + 10 := by unfold signV; rw [if_neg h1, if_pos ⟨h2, h3⟩]; omega
      have h4 : ¬ r ≤ 57 := by omega
      have h5 : 48 ≤ r := by omega
      have HV := hide hv
      clear hv h1
      go_enter Tryz.func242, Tryz.ntmps242
      go_wp2
      all_goals
        go_ret
        exact ⟨(by rw [HV.out]; rfl), rfl⟩
    · have hv : signV r = -1 := by unfold signV; rw [if_neg h1, if_neg h2]
      have HV := hide hv
      clear hv
      by_cases a : 48 ≤ r <;> by_cases b : r ≤ 57 <;> by_cases c : 97 ≤ r <;> by_cases d : r ≤ 102
      all_goals first
        | (exfalso; omega)
        | (clear h1 h2
           go_enter Tryz.func242, Tryz.ntmps242
           go_wp2
           all_goals
             go_ret
             exact ⟨(by rw [HV.out]; rfl), rfl⟩)
end
end Go.Proofs.YtcokjoidpnfjhaaGreatDoor

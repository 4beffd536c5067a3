/-
  make of a variable capacity, and copy into a block known whole, as laws. Plain theorems on memory. No condition.
-/
import Derived.Test.YtjkgmkkhjpcngaaSl
import Derived.Laws.CopyOwn
namespace Go.Proofs.Ytjkgmkkhjpcngaa
open Go.RowKit

theorem madeCells_one (z : Value) (hz : z.cells = #[z]) (n : Nat) : madeCells z.cells n = (List.replicate n z).toArray := by
  rw [hz]
  apply Array.ext
  · simp [madeCells]
  · intro i h1 h2
    simp [madeCells, Nat.mod_one]

theorem run_make_row {P : Program} (w : World) (t e : TypeId) (i : TypeInfo) (z : Value) (ht : P.underlying t = some (.slice e)) (hi : P.info? e = some i) (hz : i.zero = some z) (hs : i.size = 1) (hc : z.cells = #[z])
    (kl kc : IntKind) (l c : Nat) (hlc : l ≤ c) (hbytes : i.bytes * c ≤ 281474976710656) (h63 : c ≤ 9223372036854775807) :
    (Instr.makeSlice t (.int kl (l : Int)) (.int kc (c : Int))).run P w = .ok (.slice (some ⟨w.heap.size, 0, none⟩) l c) (w.alloc (.cells (Array.replicate c z) e)) := by
  have hb' : (i.bytes : Int) * (c : Int) ≤ 281474976710656 := by
    have h : ((i.bytes * c : Nat) : Int) ≤ 281474976710656 := by omega
    rwa [Int.natCast_mul] at h
  have h := run_make (P := P) w t e i z ht hi hz kl kc l c (by omega) (by omega) hb' (by omega)
  rw [h, Int.toNat_natCast, Int.toNat_natCast, hs, Nat.mul_one, madeCells_one z hc, List.toArray_replicate]

theorem wpList_copy_blk {P : Program} {w : World} {ops : Array Oper} {rest : List Oper} {o : Oper} {a : Act} {Q : Exit → Act → World → Prop} (hgd : o.guard = none) (d s : Operand) (dT sT : TypeId)
    (ho : o.op = .call { callee := .builtin .copy, args := #[d, s], argTypes := #[dT, sT] }) (elem : TypeId) (hu : P.underlying dT = some (.slice elem)) (hsz : (P.info? elem).map (·.size) = some 1)
    (g off dLen dCap : Nat) (hd : a.eval d = .slice (some ⟨g, off, none⟩) dLen dCap) (t : TypeId) (cur : List Value) (hg : Blk w g t cur.toArray)
    (A : Option Addr) (n c : Nat) (news : List Value) (hs : a.eval s = .slice A n c) (B : Nat) (hr : Reads w B 1 A n news) (h1 : ∀ u ∈ news, u.oneCell' = true) (hmin : n ≤ dLen) (hfit : off + n ≤ cur.length)
    (h : ∀ w', Hid (Blk w' g t (splice cur off news).toArray) → Hid (Only [g] w w') → wpList P ops Q rest (a.put o.dst (goInt n)) w') : wpList P ops Q (o :: rest) a w := by
  have hln : news.length = n := by have := hr.1; omega
  have hm : Nat.min n dLen = n := Nat.min_eq_left hmin
  rcases Nat.eq_zero_or_pos n with h0 | h0
  · subst h0
    obtain rfl : news = [] := List.eq_nil_of_length_eq_zero hln
    refine wpList_copy_nothing hgd d s dT sT ho elem hu hsz _ _ _ _ _ _ hd hs hm ?_
    refine h w (hide ?_) (hide (Only.refl _ _))
    simpa [splice] using hg
  · obtain ⟨ad, rfl, _, hc⟩ := hr.2 h0
    refine wpList_copy_own hgd d s dT sT ho elem hu hsz g off dLen dCap ad n c hd hs cur.toArray t hg news (by rw [hln, hm]) hc (by simp; omega) h1 ?_
    rw [hln]
    refine h _ (hide ?_) (hide ((Only.refl _ _).setRow (.inl (by simp)) _))
    have := setRow_heap w g cur.toArray (splice cur off news).toArray t (0, 0) hg
    unfold splice at this ⊢
    rw [hln] at this ⊢
    exact this

theorem rep_get {α : Type} {n i : Nat} (z : α) (h : i < n) : (Array.replicate n z)[i]? = some z := by simp [h]

theorem splice_mid {α : Type} (p m r n : List α) (off : Nat) (hp : p.length = off) (h : m.length = n.length) : splice (p ++ (m ++ r)) off n = p ++ (n ++ r) := by
  subst hp
  unfold splice
  rw [List.take_left' rfl, ← h, show p.length + m.length = (p ++ m).length by simp, ← List.append_assoc p m r, List.drop_left' rfl]

/-- A row of the call's own, out of a block known whole. -/
theorem own_of_blk {w : World} {base g e n cap : Nat} {cur : List Value} (h : Blk w g e cur.toArray) (hb : base ≤ g) (hn : n ≤ cap) (hc : cap ≤ maxLen) (hl : cur.length = cap) :
    w.ownsRow base e 1 (.slice (some ⟨g, 0, none⟩) n cap) n (cur.take n) :=
  ⟨by rw [List.length_take]; omega, .inr ⟨g, cap, cur.toArray, rfl, hb, h, hn, hc, by simp [hl], by simp⟩⟩
end Go.Proofs.Ytjkgmkkhjpcngaa

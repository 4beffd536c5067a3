/-
  append(b, make([]T, k)...) onto a row of the call's own, as a law (elements of one cell and one byte). Plain theorems on memory. No condition.
-/
import Derived.Test.YtgplcojkhacniaaCopy
import Derived.Lib.AppendZerosOnto
namespace Go.Proofs.Ytgplcojkhacniaa
open Go.RowKit

theorem zeroCells_one (z : Value) (k : Nat) : Builtin.zeroCells #[z] k = (List.replicate k z).toArray := by
  apply Array.ext
  · simp [Builtin.zeroCells]
  · intro i h1 h2
    simp [Builtin.zeroCells, Nat.mod_one]

theorem nextslice_fits {need cap : Nat} (h : cap < need) (hb : need ≤ 140737488355328) : Builtin.nextslicecap need cap ≤ 281474976710656 := by
  have := growslice_fits (need := need) (old := cap) (bytes := 1) h (by omega)
  omega

theorem run_append_zeros_own {P : Program} (w : World) (base : Nat) (t tn ty e : TypeId) (i : TypeInfo) (z : Value) (kq kn : IntKind) (ht : P.underlying t = some (.slice e)) (htn : P.underlying tn = some (.int kn)) (hi : P.info? e = some i) (hz : i.zero = some z)
    (hs : i.size = 1) (hb : i.bytes = 1) (hzc : z.cells = #[z]) (hz1 : z.oneCell' = true) (v : Value) (n : Nat) (xs : List Value) (hown : w.ownsRow base e 1 v n xs) (k : Nat) (h0 : 0 < k) (hbytes : n + k ≤ 140737488355328) (hbase : base ≤ w.heap.size) :
    ∃ v' w', (Builtin.append_ #[t, tn] ty #[v, .int kq k]).run P w = .ok v' w' ∧ w'.ownsRow base e 1 v' (n + k) (xs ++ List.replicate k z) ∧ w.grownBy w' v.ownBlock := by
  have hlx : xs.length = n := by have := hown.1; omega
  have grown : ∀ (base' : Option Addr) (cap : Nat) (row : Option Nat), cap < n + k → (Builtin.firstCells i.size n (.slice base' n cap)).run P w.drew = .ok xs.toArray w.drew → v = .slice base' n cap →
      ∃ v' w', (Builtin.append_ #[t, tn] ty #[v, .int kq k]).run P w = .ok v' w' ∧ w'.ownsRow base e 1 v' (n + k) (xs ++ List.replicate k z) ∧ w.grownBy w' row := by
    intro base' cap row hcap hold hv
    have hr := Lib.run_append_grow_zeros (P := P) w t tn ty e i z kq kn ht htn hi hz base' n cap xs hold k h0 (by omega) hcap (by omega) (by rw [hb]; omega) (by rw [hb, Nat.mul_one]; exact nextslice_fits hcap hbytes)
    rw [hv]
    have hge := grownCap_ge w (n + k) cap e
    have hcm : grownCap w (n + k) cap e ≤ maxLen := grownCap_le_maxLen w (n + k) cap e (by unfold maxLen; omega)
    refine ⟨_, _, hr, ⟨by simp [hlx], .inr ⟨w.heap.size, _, _, rfl, hbase, heap_alloc_new w.drew _, hge, hcm, ?_, ?_⟩⟩, ⟨rfl, rfl, rfl, by simp, fun k hk _ => Below.heap_alloc w.drew _ k hk⟩⟩
    · simp only [hzc, zeroCells_one, Array.size_append, List.size_toArray, List.length_replicate, hlx, Nat.mul_one]
      omega
    · simp only [hzc, zeroCells_one, Array.toList_append, Nat.mul_one]
      rw [show n + k = (xs ++ List.replicate k z).length by simp [hlx]]
      exact List.take_left
  rcases hown.2 with ⟨rfl, rfl⟩ | ⟨g, cap, cur, rfl, hbg, hg, hnc, hcm, hcs, htake⟩
  · have hx : xs = [] := List.eq_nil_of_length_eq_zero hlx
    subst hx
    exact grown none 0 _ (by omega) (by simp [Builtin.firstCells]) rfl
  · by_cases hroom : n + k ≤ cap
    · have hB : Blk w g e cur := hg
      have hw : IntKind.i64.wrap (k : Int) = k := by rw [IntKind.wrap_i64]; omega
      have hneg : ¬ ((k : Int) < 0) := by omega
      have h48i : ¬ (281474976710656 < (k : Int)) := by omega
      have hk : k ≠ 0 := by omega
      have hcs' : cur.size = cap := by omega
      have hst := run_storeCells_cells (P := P) g n (List.replicate k z) 0 w (fun j hj => by rw [List.length_replicate] at hj; rw [hB.cell, Array.getElem?_eq_getElem (by omega)]; rfl)
        (fun j _ => hB.frozen _) (fun u hu => by rw [List.eq_of_mem_replicate hu]; exact hz1)
      have hadd : (⟨g, 0, none⟩ : Addr).add n = ⟨g, n, none⟩ := by unfold Addr.add; split <;> simp_all
      refine ⟨.slice (some ⟨g, 0, none⟩) (n + k) cap, w.setCells g n (List.replicate k z), ?_, ⟨by simp [hlx], .inr ⟨g, cap, _, rfl, hbg, Blk.setCells (List.replicate k z) n hB, hroom, hcm, by rw [wr_size]; exact hcs, ?_⟩⟩, ?_⟩
      · have hzz : (Builtin.zeroCells #[z] k).toList = List.replicate k z := by rw [zeroCells_one]
        simp [Builtin.append_, run_underlying ht, run_underlying htn, sizeOf, typeInfo, zeroValue, hi, hz, hs, hb, asInt, asIntOf, hw, hneg, h48i, hk, hroom, hzc, hadd, hzz, hst]
      · apply List.ext_getElem?
        intro j
        rw [Nat.mul_one] at htake ⊢
        rw [List.getElem?_take]
        have hg1 := wr_get (List.replicate k z) cur n j (by rw [List.length_replicate]; omega)
        rw [List.length_replicate] at hg1
        by_cases h1 : j < n
        · rw [if_pos (by omega), Array.getElem?_toList, hg1, if_neg (by omega), List.getElem?_append_left (by omega), ← htake, List.getElem?_take, if_pos h1, Array.getElem?_toList]
        · by_cases h2 : j < n + k
          · rw [if_pos h2, Array.getElem?_toList, hg1, if_pos (by omega), List.getElem?_append_right (by omega), hlx]
          · rw [if_neg h2, List.getElem?_eq_none (by simp; omega)]
      · have ho : Only [g] w (w.setCells g n (List.replicate k z)) := Only.setCells (.inl (by simp)) n _ (Only.refl _ _)
        exact ⟨ho.os, ho.tape, ho.output, ho.size, fun j hj hne => ho.block j hj (by simp; intro e; exact hne (by simp [Value.ownBlock, e]))⟩
    · have hold : (Builtin.firstCells i.size n (.slice (some ⟨g, 0, none⟩) n cap)).run P w.drew = .ok xs.toArray w.drew := by
        have holds : ∀ j u, xs[j]? = some u → w.drew.cell? ((⟨g, 0, none⟩ : Addr).add j) = some u := hown.cells (g := g) rfl
        have := run_loadCells_list (P := P) w.drew ⟨g, 0, none⟩ xs holds
        simp only [Builtin.firstCells, hs, Nat.mul_one]
        rw [← hlx]
        exact this
      exact grown _ _ _ (by omega) hold rfl

theorem wpList_append_zeros_own {P : Program} {w : World} {ops : Array Oper} {rest : List Oper} {o : Oper} {a : Act} {Q : Exit → Act → World → Prop} (hgd : o.guard = none) (s x : Operand) (t tn : TypeId)
    (ho : o.op = .call { callee := .builtin .append, args := #[s, x], argTypes := #[t, tn] })
    (base : Nat) (e : TypeId) (i : TypeInfo) (z : Value) (kq kn : IntKind) (ht : P.underlying t = some (.slice e)) (htn : P.underlying tn = some (.int kn)) (hi : P.info? e = some i) (hz : i.zero = some z)
    (hs : i.size = 1) (hb : i.bytes = 1) (hzc : z.cells = #[z]) (hz1 : z.oneCell' = true) (v : Value) (n : Nat) (xs : List Value) (hv : a.eval s = v) (hown : w.ownsRow base e 1 v n xs)
    (k : Nat) (K : Int) (hx : a.eval x = .int kq K) (hK : K = k) (h0 : 0 < k) (hbytes : n + k ≤ 140737488355328) (hbase : base ≤ w.heap.size)
    (h : ∀ v' w', w'.ownsRow base e 1 v' (n + k) (xs ++ List.replicate k z) → w.grownBy w' v.ownBlock → wpList P ops Q rest (a.put o.dst v') w') : wpList P ops Q (o :: rest) a w := by
  subst hK
  refine wpList_plain hgd fun K hK => ?_
  obtain ⟨v', w', hr, h2, h3⟩ := run_append_zeros_own (P := P) w base t tn o.type e i z kq kn ht htn hi hz hs hb hzc hz1 v n xs hown k h0 hbytes hbase
  unfold Oper.wp execOp
  simp only [ho, resolve, invoke, builtin, Sem.run_bind, Sem.run_pure, Result.andThen_ok, List.map_toArray, List.map_cons, List.map_nil, hv, hx, hr]
  exact hK _ _ (h v' w' h2 h3)
end Go.Proofs.Ytgplcojkhacniaa

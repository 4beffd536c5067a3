/-
  term.letter: a look-up in a map that the call makes: by walking.
-/
import Derived.Test.YtjkgmkkhjpcngaaDoorBd
import Derived.Maps.Own
import Derived.Maps.OwnOps
namespace Go.Proofs.YtjkgmkkhjpcngaaDoor
open Go.RowKit Go.Deep Go.Maps Go.WideMaps

def letL : List (Int × Int) := [(1, 48), (2, 97), (3, 110), (4, 120), (5, 112), (6, 100), (7, 104), (8, 107), (9, 109), (10, 115), (11, 108)]
def letD : DataW Unit := letL.foldl (fun D p => D.put (.int .i64 p.1) (.lit (.int .u8 p.2))) (.map [])

/-- A literal's entry at the operation (the kit's law wpList_mapUpdate_own serves a statement's store). -/
theorem wpList_insert_own {H : Type} {P : Program} (w : World) {ops : Array Oper} {rest : List Oper} {o : Oper} {a : Act} {Q : Exit → Act → World → Prop}
    (hg : o.guard = none) (m x v : Operand) (t : TypeId) (hop : o.op = Op.insert t m x v)
    (k e : TypeId) (K : Keyed P k) (ht : P.underlying t = some (.map k e)) (R : Value → Option (DataW H × List MemPlace)) (b n : Nat) (D : DataW H)
    (hm : a.eval m = .map (some b)) (hown : w.ownsMap P k R b n D) (hn : n < maxLen) (key val : Value) (kl : Lit) (hx : a.eval x = key) (hv : a.eval v = val) (hkey : keyOf P k key = some kl)
    (d : DataW H) (ps : List MemPlace) (hval : R val = some (d, ps))
    (hK : ∀ w', w'.ownsMap P k R b (n + 1) (D.put kl d) → w.grownBy w' (some b) → wpList P ops Q rest (a.put o.dst undef) w') :
    wpList P ops Q (o :: rest) a w := by
  refine wpList_plain hg fun K' hK' => ?_
  obtain ⟨w', hrun, r1, r2⟩ := hown.update K ht hn hkey hval
  unfold Oper.wp
  simp [execOp, hop, hm, hx, hv, hrun, Result.andThen]
  exact hK' _ _ (hK w' r1 r2)

set_option maxRecDepth 100000 in
set_option maxHeartbeats 3200000 in
theorem letter_any (k : Int) (hk : (Lit.int .i64 k).wf = true) (w : World) : Calls Tryd.prog 54 #[.int .i64 k] w fun e w' => ∃ c, e = .returned (.int .u8 c) ∧ letD.atKey (.int .i64 k) (.lit (.int .u8 0)) = .lit (.int .u8 c) ∧ Only [] w w' := by
  have hmm := @run_makeMap Tryd.prog
  have hown : (w.alloc (.map #[] 0)).ownsMap Tryd.prog 3 (plainElem (H := Unit) Tryd.prog 5) w.heap.size 0 (.map []) := World.ownsMap_made _ _ _ _
  have HO := hide ((Only.refl [] w).alloc (.map #[] 0))
  go_enter Tryd.func54, Tryd.ntmps54
  go_wp2_with (first
    | (refine wpList_insert_own _ rfl _ _ _ 107 rfl 3 5 (int_keyed Tryd.underlying3) Tryd.underlying107 _ w.heap.size _ _ rfl hown (by unfold maxLen; omega) _ _ _ rfl rfl (keyOf_int_mk Tryd.underlying3 (by decide)) _ [] (plainElem_int Tryd.underlying5 (by decide)) ?_; intro w1 hown1 hgrow1; have HO := hide (HO.out.grown hgrow1 (fun j hj => .inr (by cases hj; exact Nat.le_refl _))); have hown := hown1; clear hown1 hgrow1)
    | (at_lookup; refine wpList_lookup_own_int _ rfl _ _ 107 rfl 3 5 .u8 (int_keyed Tryd.underlying3) Tryd.underlying107 Tryd.underlying5 (by kernel_rfl) w.heap.size _ _ rfl hown _ _ rfl (keyOf_int_mk Tryd.underlying3 hk) ?_; intro c hat _))
  go_ret
  exact ⟨c, rfl, hat, HO.out⟩
theorem letter_atom (w : World) : Calls Tryd.prog 54 #[.int .i64 2] w fun e w' => e = .returned (.int .u8 97) ∧ Only [] w w' :=
  (letter_any 2 (by decide) w).mono fun e w' ⟨c, he, hat, ho⟩ => by
    have h2 : letD.atKey (.int .i64 2) (.lit (.int .u8 0)) = .lit (.int .u8 97) := by rfl
    rw [h2] at hat
    injection hat with h3
    injection h3 with _ h4
    subst h4
    exact ⟨he, ho⟩
end Go.Proofs.YtjkgmkkhjpcngaaDoor

/-
  Contract of slices.Clone at bytes, by walking.
-/
import Derived.Test.YtgplcojkhacniaaChecked
import Derived.Test.YtgplcojkhacniaaSl
namespace Go.Proofs.Ytgplcojkhacniaa
open Go.RowKit Go.Deep

theorem Try.info5 : (Try.prog.info? 5).map (fun i => (i.zero, i.size, i.bytes)) = some (some (.int .u8 0), 1, 1) := by kernel_rfl

/-- A slice of the call's own, or a nil one. -/
def OwnB (w : World) (base : Nat) (v : Value) (xs : List Int) : Prop := w.ownsRow base 5 1 v xs.length (ints .u8 xs)

theorem OwnB.nil (w : World) (base : Nat) : OwnB w base (.slice none 0 0) [] := ⟨rfl, .inl ⟨rfl, rfl⟩⟩
theorem OwnB.rd {w : World} {base : Nat} {v : Value} {xs : List Int} {N : List Nat} (h : OwnB w base v xs) (hN : ∀ x ∈ N, x < base) : Rd w N v (ints .u8 xs) := (Rd.of_own h hN).1

theorem OwnB.only {S : List Nat} {w w' : World} {base : Nat} {v : Value} {xs : List Int} (h : OwnB w base v xs) (ho : Only S w w') (hS : ∀ x ∈ S, x < base) : OwnB w' base v xs := own_only h ho hS
theorem OwnB.base {w : World} {base base' : Nat} {v : Value} {xs : List Int} (h : OwnB w base v xs) (hb : base' ≤ base) : OwnB w base' v xs := own_base h hb

theorem clone_any (w : World) (N : List Nat) (v : Value) (xs : List Int) (hv : Rd w N v (ints .u8 xs)) (hl : xs.length ≤ 140737488351232) :
    Calls Try.prog 16 #[v] w fun e w' => ∃ v', e = .returned v' ∧ OwnB w' w.heap.size v' xs ∧ Only [] w w' := by
  obtain ⟨i0, hi, hz0, hz1, hz2⟩ := info_parts Try.info5
  obtain ⟨A, cap, rfl, hc, hm⟩ := hv.formi
  have hrd := hide hv.reads
  unfold maxLen at hm
  have qn := fun (W : World) (A : Option Addr) (n c : Nat) => Lib.run_eql_slice_nil (P := Try.prog) W 22 5 A n c 0 0 Try.underlying22
  cases A with
  | none =>
    have hx : xs = [] := by
      cases xs with
      | nil => rfl
      | cons y l =>
        obtain ⟨g, o, hA, _⟩ := hv.at_.2.2.2 0 (.int .u8 y) rfl
        cases hA
    subst hx
    clear hv
    go_enter Try.func16, Try.ntmps16
    go_wp2_with fail
    go_ret
    exact ⟨_, rfl, OwnB.nil _ _, Only.refl _ _⟩
  | some a =>
    have hown0 := own_empty w 5 w.heap.size (Nat.le_refl _)
    have HO0 := hide ((Only.refl [] w).alloc (.cells #[] 5))
    have hrd0 := hide (show Reads (w.alloc (.cells #[] 5)) w.heap.size 1 (some a) xs.length (ints .u8 xs) from hrd.out.alloc (Nat.le_refl _) _)
    have hown0 := hide hown0
    have ho := hide (ints_one .u8 xs)
    clear hv hrd
    generalize hn : xs.length = n at hl hc hrd0
    have HN := hide hn
    unfold OwnB
    rw [hn]
    clear hn
    generalize ints .u8 xs = cs at hrd0 ho
    go_enter Try.func16, Try.ntmps16
    go_wp2_with (at_builtin; refine wpList_append_any _ rfl (.tmp 5) (.tmp 6) 22 rfl w.heap.size 5 i0 (.int .u8 0) 1 1 Try.underlying22 hi hz0 hz1 hz2 rfl (by decide) _ 0 [] rfl hown0.out w.heap.size (some a) n cap cs rfl hrd0.out ho.out (by unfold maxLen; omega) (by omega) (by simp) ?_; intro v1 w1 hown1 hg1 _; have HOWN1 := hide hown1; have ho1 := hide (HO0.out.grown hg1 (fun j hj => .inr (own_block_ge hown0.out hj))); clear hown1 hg1)
    go_ret
    refine ⟨v1, rfl, ?_, ho1.out⟩
    have h := HOWN1.out
    rw [Nat.zero_add, List.nil_append] at h
    exact h
end Go.Proofs.Ytgplcojkhacniaa

/-
  Walks and plain words (texts Wi2). No condition beyond those that each theorem states.
-/
import Derived.Test.YteoifokmbkpbnaaDoorQ25
namespace Go.Proofs.YteoifokmbkpbnaaDoor
section
open Go.RowKit Go.Deep

set_option maxRecDepth 100000 in
set_option maxHeartbeats 6400000 in
theorem ReadR_bad (w : World) (bv : Value) (l : List UInt8) (hl : l.length ≤ 1099511627776) (c : UInt8) (hcc : ¬ (c = 1 ∨ c = 2 ∨ c = 3 ∨ c = 4)) (r : List UInt8) (hlr : l = c :: r) (hb : Rd w [] bv (ints .u8 (byts l))) :
    Calls Tryd.prog 46 #[bv] w (ReadPostW (readV l) w) := by
  obtain ⟨A, cap, rfl, hc1, hc2⟩ := hb.formb
  obtain ⟨G, O, rfl, hG, h0⟩ : ∃ G O, A = some ⟨G, O, none⟩ ∧ G < w.heap.size ∧ w.cell? ⟨G, O, none⟩ = some (.int .u8 (c.toNat : Nat)) := by
    subst hlr
    obtain ⟨g, o, h, _, h2, h3⟩ := hb.at_.2.2.2 0 (.int .u8 c.toNat) rfl
    exact ⟨g, o, h, h2, h3⟩
  have HRB := hide ((Blk.new w 78 msg0).alloc (.cells msg0 78))
  have HO := hide (((Only.refl [] w).alloc (.cells msg0 78)).alloc (.cells msg0 78))
  have HZB := hide (Blk.new (w.alloc (.cells msg0 78)) 78 msg0)
  rw [World.size_alloc] at HZB
  have HV2 := hide (show readV l = (3, zeroM 0) by
    have e : headV l = (3, 0, []) := by rw [hlr]; exact if_neg hcc
    rw [read_head (by rw [e]; decide), e])
  have d0 := (cell_only HO.out hG (by simp)).trans h0
  obtain ⟨n, hn⟩ : ∃ n, n = l.length := ⟨_, rfl⟩
  have hpos : (0 : Int) < n := by rw [hn, hlr]; simp only [List.length_cons]; omega
  have hposN : 0 < n := by omega
  have hzz : ((n : Int) == 0) = false := by rw [beq_eq_false_iff_ne]; omega
  have hk : (c.toNat : Int) < 1 ∨ ¬ (c.toNat : Int) < 1 ∧ (4 : Int) < c.toNat := by
    have h1 : ¬ c.toNat = 1 := fun h => hcc (.inl (UInt8.toNat_inj.1 h))
    have h2 : ¬ c.toNat = 2 := fun h => hcc (.inr (.inl (UInt8.toNat_inj.1 h)))
    have h3 : ¬ c.toNat = 3 := fun h => hcc (.inr (.inr (.inl (UInt8.toNat_inj.1 h))))
    have h4 : ¬ c.toNat = 4 := fun h => hcc (.inr (.inr (.inr (UInt8.toNat_inj.1 h))))
    omega
  have hcw : IntKind.i64.wrap (c.toNat : Int) = c.toNat := by have := c.toNat_lt; rw [IntKind.wrap_i64]; omega
  rw [← hn] at hc1 ⊢
  generalize c.toNat = k at *
  clear hb hl hlr hn hcc h0
  unfold maxLen at hc2
  rcases hk with hk | ⟨hk, hk2⟩
  all_goals
    go_enter Tryd.func46, Tryd.ntmps46
    go_upto_region 5 with fail
    generalize ((w.alloc (.cells msg0 78)).alloc (.cells msg0 78)) = W at *
    have r0 := HRB.out.cell 0; have r1 := HRB.out.cell 1; have r2 := HRB.out.cell 2; have r3 := HRB.out.cell 3; have r4 := HRB.out.cell 4; have r5 := HRB.out.cell 5; have r6 := HRB.out.cell 6; have r7 := HRB.out.cell 7; have r8 := HRB.out.cell 8; have r9 := HRB.out.cell 9; have r10 := HRB.out.cell 10; have r11 := HRB.out.cell 11; have r12 := HRB.out.cell 12; simp at r0 r1 r2 r3 r4 r5 r6 r7 r8 r9 r10 r11 r12; have rf := HRB.out.frozen
    have z0 := HZB.out.cell 0; have z1 := HZB.out.cell 1; have z2 := HZB.out.cell 2; have z3 := HZB.out.cell 3; have z4 := HZB.out.cell 4; have z5 := HZB.out.cell 5; have z6 := HZB.out.cell 6; have z7 := HZB.out.cell 7; have z8 := HZB.out.cell 8; have z9 := HZB.out.cell 9; have z10 := HZB.out.cell 10; have z11 := HZB.out.cell 11; have z12 := HZB.out.cell 12; simp at z0 z1 z2 z3 z4 z5 z6 z7 z8 z9 z10 z11 z12
    go_wp2_with fail
    refine bodyPost_ret (results_cell_two rfl _ _ w.heap.size 78 _ (0, 0) _ rfl (set13 HRB.out (.int .i64 0) (.int .u32 0) (.int .u32 0) (.int .u64 0) (.string ⟨#[]⟩) (.string ⟨#[]⟩) (.string ⟨#[]⟩) (.string ⟨#[]⟩) (.string ⟨#[]⟩) (.string ⟨#[]⟩) (.string ⟨#[]⟩) (.string ⟨#[]⟩) (.string ⟨#[]⟩)) Tryd.underlying78 rfl (by kernel_rfl)) rfl ?_
    exact readw HV2.out (only13 HO.out (.inr (Nat.le_refl _)) (.int .i64 0) (.int .u32 0) (.int .u32 0) (.int .u64 0) (.string ⟨#[]⟩) (.string ⟨#[]⟩) (.string ⟨#[]⟩) (.string ⟨#[]⟩) (.string ⟨#[]⟩) (.string ⟨#[]⟩) (.string ⟨#[]⟩) (.string ⟨#[]⟩) (.string ⟨#[]⟩))
theorem ReadR_any (w : World) (bv : Value) (l : List UInt8) (hl : l.length ≤ 1099511627776) (hb : Rd w [] bv (ints .u8 (byts l))) :
    Calls Tryd.prog 46 #[bv] w (ReadPostW (readV l) w) := by
  cases l with
  | nil =>
    obtain ⟨A, cap, rfl, _⟩ := hb.formb
    exact ReadR_nil w A cap
  | cons c r =>
    by_cases hcc : c = 1 ∨ c = 2 ∨ c = 3 ∨ c = 4
    · have h14 : 1 ≤ c.toNat ∧ c.toNat ≤ 4 := by rcases hcc with rfl | rfl | rfl | rfl <;> decide
      exact ReadR_k w bv _ hl c hcc c.toNat rfl h14.1 h14.2 r rfl hb
    · exact ReadR_bad w bv _ hl c hcc r rfl hb
end
end Go.Proofs.YteoifokmbkpbnaaDoor

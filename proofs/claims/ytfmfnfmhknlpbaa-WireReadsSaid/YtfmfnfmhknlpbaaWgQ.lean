/-
  wire.Read of any bytes: by walking. Condition: at most 2^40 bytes.
-/
import Derived.Test.YtfmfnfmhknlpbaaWf1Q
import Derived.Test.YtfmfnfmhknlpbaaWf2Q
import Derived.Test.YtfmfnfmhknlpbaaWf3Q
import Derived.Test.YtfmfnfmhknlpbaaWf4Q
namespace Go.Proofs.Ytfmfnfmhknlpbaa
open Go.RowKit Go.Deep

theorem zero_len (n : Nat) (l : List UInt8) : (zeroV n l).2.length ≤ l.length := by
  induction n generalizing l with
  | zero => exact Nat.le_refl _
  | succ n ih =>
    cases l with
    | nil => simp [zeroV]
    | cons b r =>
      rw [zeroV]
      split
      · have := ih r; simp only [List.length_cons]; omega
      · simp
theorem zero_code (n : Nat) (l : List UInt8) : (zeroV n l).1 = 0 ∨ (zeroV n l).1 = 3 ∨ (zeroV n l).1 = 4 := by
  induction n generalizing l with
  | zero => exact .inl rfl
  | succ n ih =>
    cases l with
    | nil => exact .inr (.inr rfl)
    | cons b r =>
      rw [zeroV]
      split
      · exact ih r
      · exact .inr (.inl rfl)
/-- The head of a message, by cases. -/
theorem head_cases (l : List UInt8) : (∃ c, headV l = (c, 0, []) ∧ c ≠ 0) ∨ ∃ k q, headV l = (0, k, q) ∧ (k = 1 ∨ k = 2 ∨ k = 3 ∨ k = 4) ∧ q.length ≤ l.length ∧ l ≠ [] := by
  cases l with
  | nil => exact .inl ⟨4, rfl, by decide⟩
  | cons c r =>
    by_cases hk : c = 1 ∨ c = 2 ∨ c = 3 ∨ c = 4
    · have e : headV (c :: r) = if (zeroV 3 r).1 = 0 then (0, (c.toNat : Int), (zeroV 3 r).2) else ((zeroV 3 r).1, 0, []) := if_pos hk
      by_cases hz : (zeroV 3 r).1 = 0
      · rw [if_pos hz] at e
        refine .inr ⟨_, _, e, ?_, by have := zero_len 3 r; simp only [List.length_cons]; omega, by simp⟩
        rcases hk with rfl | rfl | rfl | rfl <;> decide
      · rw [if_neg hz] at e
        exact .inl ⟨_, e, hz⟩
    · exact .inl ⟨3, if_neg hk, by decide⟩

set_option maxRecDepth 100000 in
set_option maxHeartbeats 6400000 in
theorem Read_err (w : World) (bv : Value) (l : List UInt8) (hl : l.length ≤ 1099511627776) (c : Int) (hh : headV l = (c, 0, [])) (hc : c ≠ 0) (hne : l ≠ []) (hb : Rd w [] bv (ints .u8 (byts l))) :
    Calls Try.prog 7 #[bv] w (ReadPostW (readV l) w) := by
  obtain ⟨A, cap, rfl, hc1, hc2⟩ := hb.formb
  obtain ⟨G, O, rfl, _⟩ : ∃ G O, A = some ⟨G, O, none⟩ ∧ True := by
    obtain ⟨b, r, rfl⟩ := List.exists_cons_of_ne_nil hne
    obtain ⟨g, o, h, _⟩ := hb.at_.2.2.2 0 (.int .u8 (b.toNat : Int)) rfl
    exact ⟨g, o, h, trivial⟩
  have HO := hide (((Only.refl [] w).alloc (.cells (zeroM 0) 27)).alloc (.cells #[.slice (some ⟨G, O, none⟩) l.length cap] 55))
  have HRB := hide ((Blk.new w 27 (zeroM 0)).alloc (.cells #[.slice (some ⟨G, O, none⟩) l.length cap] 55))
  have HA := hide (show RdrAt ((w.alloc (.cells (zeroM 0) 27)).alloc (.cells #[.slice (some ⟨G, O, none⟩) l.length cap] 55)) [] (w.heap.size + 1) l from by
    have h := Blk.new (w.alloc (.cells (zeroM 0) 27)) 55 #[.slice (some ⟨G, O, none⟩) l.length cap]
    rw [World.size_alloc] at h
    exact ⟨G, O, cap, h, (hb.more (by intro x hx; rw [List.mem_singleton.1 hx]; right; omega)).only HO.out (by simp)⟩)
  unfold zeroM at HO HRB HA
  have HH := hide (fun W ha => head_w W [] (w.heap.size + 1) l hl ha)
  unfold HeadPost at HH
  rw [hh] at HH
  simp only at HH
  have HV2 := hide (show readV l = (c, zeroM 0) by rw [read_head (by rw [hh]; exact hc), hh])
  have hcb : (c != 0) = true := bne_iff_ne.2 hc
  clear hb hl hh hne hc
  go_enter Try.func7, Try.ntmps7
  go_wp2_with (go_at_call 27; refine (HH.out _ HA.out).mono ?_; rintro e w1 ⟨rfl, ho, ha⟩; replace HRB := hide (HRB.out.only ho (by simp)); replace HO := hide (((HO.out.mono (S' := [w.heap.size + 1]) (by simp)).trans ho).mono (S' := []) (by simp)); have r0 := HRB.out.cell 0; have r1 := HRB.out.cell 1; have r2 := HRB.out.cell 2; have r3 := HRB.out.cell 3; have r4 := HRB.out.cell 4; have r5 := HRB.out.cell 5; have r6 := HRB.out.cell 6; have r7 := HRB.out.cell 7; have r8 := HRB.out.cell 8; have r9 := HRB.out.cell 9; have r10 := HRB.out.cell 10; have r11 := HRB.out.cell 11; have r12 := HRB.out.cell 12; simp at r0 r1 r2 r3 r4 r5 r6 r7 r8 r9 r10 r11 r12; have rf := HRB.out.frozen; clear ho ha)
  refine bodyPost_ret (results_cell_two rfl _ _ w.heap.size 27 _ (0, 0) _ rfl (set13 HRB.out (.int .i64 0) (.int .u32 0) (.int .u32 0) (.int .u64 0) (.string ⟨#[]⟩) (.string ⟨#[]⟩) (.string ⟨#[]⟩) (.string ⟨#[]⟩) (.string ⟨#[]⟩) (.string ⟨#[]⟩) (.string ⟨#[]⟩) (.string ⟨#[]⟩) (.string ⟨#[]⟩)) Try.underlying27 rfl (by kernel_rfl)) rfl ?_
  exact readw HV2.out (only13 HO.out (.inr (Nat.le_refl _)) _ _ _ _ _ _ _ _ _ _ _ _ _)

theorem Read_any (w : World) (bv : Value) (l : List UInt8) (hl : l.length ≤ 1099511627776) (hb : Rd w [] bv (ints .u8 (byts l))) :
    Calls Try.prog 7 #[bv] w (ReadPostW (readV l) w) := by
  by_cases hne : l = []
  · subst hne
    obtain ⟨A, cap, rfl, _⟩ := hb.formb
    exact Read_nil w A cap
  · rcases head_cases l with ⟨c, hh, hc⟩ | ⟨k, q, hh, hk, hq, _⟩
    · exact Read_err w bv l hl c hh hc hne hb
    · rcases hk with rfl | rfl | rfl | rfl
      · exact Read_1 w bv l hl q hh hq hne hb
      · exact Read_2 w bv l hl q hh hq hne hb
      · exact Read_3 w bv l hl q hh hq hne hb
      · exact Read_4 w bv l hl q hh hq hne hb
end Go.Proofs.Ytfmfnfmhknlpbaa

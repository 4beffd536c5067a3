/-
  Walks and plain words for KnowNil (texts Kn9, Kn10, Kn11). No condition beyond those that each theorem states.
-/
import Derived.Deep.RegionHeld3
import Derived.Lib.SmallJoins
import Derived.Test.YtfmfnfmhknlpbaaP04
namespace Go.Proofs.Ytfmfnfmhknlpbaa
section
open Go.RowKit Go.Deep Go.Maps Go.WideMaps

set_option maxRecDepth 100000 in
set_option maxHeartbeats 6400000 in
theorem read_k (w : World) (g k m n sb : Nat) (D : DataW Unit) (keys : Value) (hb : KAt g (some ⟨k, 0, none⟩) (⟨#[107, 40, 49, 44, 97, 49, 44, 48, 41]⟩ : ByteArray) 0 w) (hk : KnowIs k m n sb D keys w) (hkg : k ≠ g) (hmg : m ≠ g) (ha1 : hadB D (⟨#[97, 49]⟩ : ByteArray) = true) :
    Calls Try.prog 67 #[.pointer (some ⟨g, 0, none⟩)] w (ReadKPost g (some ⟨k, 0, none⟩) (⟨#[107, 40, 49, 44, 97, 49, 44, 48, 41]⟩ : ByteArray) 9 true w) := by
  have HB := hide hb
  have HKN := hide hk
  have HW := hide (Only.refl [g] w)
  have HSK := hide (fun W h => skip_any W g (some ⟨k, 0, none⟩) (⟨#[107, 40, 49, 44, 97, 49, 44, 48, 41]⟩ : ByteArray) 2 h (by decide) (by unfold maxLen; show 9 ≤ _; omega))
  unfold SkipPost at HSK
  rw [show send (⟨#[107, 40, 49, 44, 97, 49, 44, 48, 41]⟩ : ByteArray) 2 = 3 by kernel_rfl] at HSK
  have HA := hide (fun W (h : KAt g (some ⟨k, 0, none⟩) (⟨#[107, 40, 49, 44, 97, 49, 44, 48, 41]⟩ : ByteArray) 4 W) (h2 : KnowIs k m n sb D keys W) => read_atom W g k m n sb D keys (⟨#[107, 40, 49, 44, 97, 49, 44, 48, 41]⟩ : ByteArray) 4 h h2 hkg hmg (by decide) (by unfold maxLen; show 9 ≤ _; omega) (by decide) (by decide) (by decide) (by decide) (by decide))
  unfold ReadKPost at HA
  rw [show send (⟨#[107, 40, 49, 44, 97, 49, 44, 48, 41]⟩ : ByteArray) (4 + 1) = 6 by kernel_rfl, show ByteArray.extract (⟨#[107, 40, 49, 44, 97, 49, 44, 48, 41]⟩ : ByteArray) 4 6 = (⟨#[97, 49]⟩ : ByteArray) by kernel_rfl, ha1] at HA
  have HZ := hide (fun W (h : KAt g (some ⟨k, 0, none⟩) (⟨#[107, 40, 49, 44, 97, 49, 44, 48, 41]⟩ : ByteArray) 7 W) => read_zero W g (some ⟨k, 0, none⟩) (⟨#[107, 40, 49, 44, 97, 49, 44, 48, 41]⟩ : ByteArray) 7 h (by decide) (by unfold maxLen; show 9 ≤ _; omega) (by decide))
  unfold ReadKPost at HZ
  have k0 := HB.out.cell 0; have k1 := HB.out.cell 1; have k2 := HB.out.cell 2; have f2 := HB.out.frozen 2; simp at k0 k1 k2
  clear hb hk ha1
  go_enter Try.func67, Try.ntmps67
  go_wp2_with fail
  go_quiet (fail)
  go_wp2_with (go_at_call 75; refine (HSK.out _ (by exact (((HB.out.drewN _).set_ 2 _).set_ 2 _))).mono ?_; rintro e w1 ⟨rfl, hk1, ho⟩; replace HKN := hide (HKN.out.only (((((Only.refl [g] _).drewN _).setCell (p := ⟨g, 2, none⟩) (.inl (by simp)) _).setCell (p := ⟨g, 2, none⟩) (.inl (by simp)) _).trans ho) (by simp; exact hkg) (by simp; exact hmg)); replace HB := hide hk1; replace HW := hide ((((HW.out.drewN _).setCell (p := ⟨g, 2, none⟩) (.inl (by simp)) _).setCell (p := ⟨g, 2, none⟩) (.inl (by simp)) _).trans ho); clear ho hk1 k0 k1 k2 f2; have k0 := HB.out.cell 0; have k1 := HB.out.cell 1; have k2 := HB.out.cell 2; have f2 := HB.out.frozen 2; simp at k0 k1 k2)
  refine wp_loop_rounds 3 ?_
  rw [rounds_succ]
  go_wp2_with fail
  go_quiet (fail)
  go_wp2_with fail
  go_quiet (fail)
  go_wp2_with (go_at_call 67; refine (HA.out _ (by exact ((HB.out.set_ 2 _).drewN _)) (HKN.out.only ((((Only.refl [g] _).setCell (p := ⟨g, 2, none⟩) (.inl (by simp)) _).drewN _)) (by simp; exact hkg) (by simp; exact hmg))).mono ?_; rintro e w1 ⟨rfl, hk1, ho⟩; replace HKN := hide (HKN.out.only ((((Only.refl [g] _).setCell (p := ⟨g, 2, none⟩) (.inl (by simp)) _).drewN _).trans ho) (by simp; exact hkg) (by simp; exact hmg)); replace HB := hide hk1; replace HW := hide (((HW.out.setCell (p := ⟨g, 2, none⟩) (.inl (by simp)) _).drewN _).trans ho); clear ho hk1 k0 k1 k2 f2; have k0 := HB.out.cell 0; have k1 := HB.out.cell 1; have k2 := HB.out.cell 2; have f2 := HB.out.frozen 2; simp at k0 k1 k2)
  rw [rounds_succ]
  go_wp2_with fail
  go_quiet (fail)
  go_wp2_with fail
  go_quiet (fail)
  go_wp2_with (go_at_call 67; refine (HZ.out _ (by exact ((HB.out.drewN _).set_ 2 _))).mono ?_; rintro e w1 ⟨rfl, hk1, ho⟩; replace HKN := hide (HKN.out.only ((((Only.refl [g] _).drewN _).setCell (p := ⟨g, 2, none⟩) (.inl (by simp)) _).trans ho) (by simp; exact hkg) (by simp; exact hmg)); replace HB := hide hk1; replace HW := hide (((HW.out.drewN _).setCell (p := ⟨g, 2, none⟩) (.inl (by simp)) _).trans ho); clear ho hk1 k0 k1 k2 f2; have k0 := HB.out.cell 0; have k1 := HB.out.cell 1; have k2 := HB.out.cell 2; have f2 := HB.out.frozen 2; simp at k0 k1 k2)
  rw [rounds_succ]
  go_wp2_with fail
  go_quiet (fail)
  go_upto_region 29 with fail
  have HBE := hide (show KAt g (some ⟨k, 0, none⟩) (⟨#[107, 40, 49, 44, 97, 49, 44, 48, 41]⟩ : ByteArray) 9 ((w1.drewN nq).setCell ⟨g, 2, none⟩ (.int .i64 9)) from (HB.out.drewN _).set_ 2 _)
  have HWE := hide (show Only [g] w ((w1.drewN nq).setCell ⟨g, 2, none⟩ (.int .i64 9)) from (HW.out.drewN _).setCell (p := ⟨g, 2, none⟩) (.inl (by simp)) _)
  generalize ((w1.drewN nq).setCell ⟨g, 2, none⟩ (.int .i64 9)) = wE at *
  refine wp_region_held_drew (S := fun W => Only [] wE W) (by kernel_rfl) (by exact (Only.refl [] wE).drew) (fun hHeld => ?_)
  refine wpAnyH_take (i := 0) (v := ?_) rfl (by kernel_rfl) (by kernel_rfl) (by kernel_rfl) (fun _ _ _ h => h) (Or.inl ⟨by rfl, ?_⟩) (by assumption) ?_
  rotate_left
  · (intro w hSw; (try dsimp only at hSw); go_simp; try with_reducible rfl)
  try simp only [List.getElem_toArray, List.getElem_cons_succ, List.getElem_cons_zero, Act.put, List.setIfInBounds_toArray, List.set_cons_zero, List.set_cons_succ]
  refine wpAnyH_take (i := 1) (v := ?_) rfl (by kernel_rfl) (by kernel_rfl) (by kernel_rfl) (fun _ _ _ h => h) (Or.inl ⟨by rfl, ?_⟩) (by assumption) ?_
  rotate_left
  · (intro w hSw; (try dsimp only at hSw); go_simp; try with_reducible rfl)
  try simp only [List.getElem_toArray, List.getElem_cons_succ, List.getElem_cons_zero, Act.put, List.setIfInBounds_toArray, List.set_cons_zero, List.set_cons_succ]
  refine wpAnyH_take (i := 2) (v := ?_) rfl (by kernel_rfl) (by kernel_rfl) (by kernel_rfl) (fun _ _ _ h => h) (Or.inl ⟨by rfl, ?_⟩) (by assumption) ?_
  rotate_left
  · (intro w hSw; (try dsimp only at hSw); go_simp; try with_reducible rfl)
  try simp only [List.getElem_toArray, List.getElem_cons_succ, List.getElem_cons_zero, Act.put, List.setIfInBounds_toArray, List.set_cons_zero, List.set_cons_succ]
  refine wpAnyH_take (i := 3) (v := ?_) rfl (by kernel_rfl) (by kernel_rfl) (by kernel_rfl) (fun _ _ _ h => h) (Or.inl ⟨by rfl, ?_⟩) (by assumption) ?_
  rotate_left
  · (intro w hSw; (try dsimp only at hSw); go_simp; try with_reducible rfl)
  try simp only [List.getElem_toArray, List.getElem_cons_succ, List.getElem_cons_zero, Act.put, List.setIfInBounds_toArray, List.set_cons_zero, List.set_cons_succ]
  refine wpAnyH_take (i := 4) (v := ?_) rfl (by kernel_rfl) (by kernel_rfl) (by kernel_rfl) (fun _ _ _ h => h) (Or.inl ⟨by rfl, ?_⟩) (by assumption) ?_
  rotate_left
  · (intro w hSw; (try dsimp only at hSw); go_simp; try with_reducible rfl)
  try simp only [List.getElem_toArray, List.getElem_cons_succ, List.getElem_cons_zero, Act.put, List.setIfInBounds_toArray, List.set_cons_zero, List.set_cons_succ]
  refine wpAnyH_take (i := 5) (v := ?_) rfl (by kernel_rfl) (by kernel_rfl) (by kernel_rfl) (fun _ _ _ h => h) (Or.inl ⟨by rfl, ?_⟩) (by assumption) ?_
  rotate_left
  · (intro w hSw; (try dsimp only at hSw); go_simp; try with_reducible rfl)
  try simp only [List.getElem_toArray, List.getElem_cons_succ, List.getElem_cons_zero, Act.put, List.setIfInBounds_toArray, List.set_cons_zero, List.set_cons_succ]
  refine wpAnyH_take (i := 6) (v := undef) rfl (by kernel_rfl) (by kernel_rfl) (by kernel_rfl) (fun _ _ _ h => h) (Or.inr ⟨by rfl, rfl⟩) (by assumption) ?_
  try simp only [List.getElem_toArray, List.getElem_cons_succ, List.getElem_cons_zero, Act.put, List.setIfInBounds_toArray, List.set_cons_zero, List.set_cons_succ]
  refine wpAnyH_take (i := 7) (v := undef) rfl (by kernel_rfl) (by kernel_rfl) (by kernel_rfl) (fun _ _ _ h => h) (Or.inr ⟨by rfl, rfl⟩) (by assumption) ?_
  try simp only [List.getElem_toArray, List.getElem_cons_succ, List.getElem_cons_zero, Act.put, List.setIfInBounds_toArray, List.set_cons_zero, List.set_cons_succ]
  refine wpAnyH_take (i := 8) (v := undef) rfl (by kernel_rfl) (by kernel_rfl) (by kernel_rfl) (fun _ _ _ h => h) (Or.inr ⟨by rfl, rfl⟩) (by assumption) ?_
  try simp only [List.getElem_toArray, List.getElem_cons_succ, List.getElem_cons_zero, Act.put, List.setIfInBounds_toArray, List.set_cons_zero, List.set_cons_succ]
  refine wpAnyH_take (i := 9) (v := undef) rfl (by kernel_rfl) (by kernel_rfl) (by kernel_rfl) (fun _ _ _ h => h) (Or.inr ⟨by rfl, rfl⟩) (by assumption) ?_
  try simp only [List.getElem_toArray, List.getElem_cons_succ, List.getElem_cons_zero, Act.put, List.setIfInBounds_toArray, List.set_cons_zero, List.set_cons_succ]
  refine wpAnyH_take (i := 10) (v := undef) rfl (by kernel_rfl) (by kernel_rfl) (by kernel_rfl) (fun _ _ _ h => h) (Or.inr ⟨by rfl, rfl⟩) (by assumption) ?_
  try simp only [List.getElem_toArray, List.getElem_cons_succ, List.getElem_cons_zero, Act.put, List.setIfInBounds_toArray, List.set_cons_zero, List.set_cons_succ]
  refine wpAnyH_take (i := 11) (v := undef) rfl (by kernel_rfl) (by kernel_rfl) (by kernel_rfl) (fun _ _ _ h => h) (Or.inr ⟨by rfl, rfl⟩) (by assumption) ?_
  try simp only [List.getElem_toArray, List.getElem_cons_succ, List.getElem_cons_zero, Act.put, List.setIfInBounds_toArray, List.set_cons_zero, List.set_cons_succ]
  refine wpAnyH_take (i := 12) (v := undef) rfl (by kernel_rfl) (by kernel_rfl) (by kernel_rfl) (fun _ _ _ h => h) (Or.inr ⟨by rfl, rfl⟩) (by assumption) ?_
  try simp only [List.getElem_toArray, List.getElem_cons_succ, List.getElem_cons_zero, Act.put, List.setIfInBounds_toArray, List.set_cons_zero, List.set_cons_succ]
  refine wpAnyH_take (i := 13) (v := undef) rfl (by kernel_rfl) (by kernel_rfl) (by kernel_rfl) (fun _ _ _ h => h) (Or.inr ⟨by rfl, rfl⟩) (by assumption) ?_
  try simp only [List.getElem_toArray, List.getElem_cons_succ, List.getElem_cons_zero, Act.put, List.setIfInBounds_toArray, List.set_cons_zero, List.set_cons_succ]
  refine wpAnyH_take (i := 14) (v := undef) rfl (by kernel_rfl) (by kernel_rfl) (by kernel_rfl) (fun _ _ _ h => h) (Or.inr ⟨by rfl, rfl⟩) (by assumption) ?_
  try simp only [List.getElem_toArray, List.getElem_cons_succ, List.getElem_cons_zero, Act.put, List.setIfInBounds_toArray, List.set_cons_zero, List.set_cons_succ]
  refine wpAnyH_take (i := 15) (v := undef) rfl (by kernel_rfl) (by kernel_rfl) (by kernel_rfl) (fun _ _ _ h => h) (Or.inr ⟨by rfl, rfl⟩) (by assumption) ?_
  try simp only [List.getElem_toArray, List.getElem_cons_succ, List.getElem_cons_zero, Act.put, List.setIfInBounds_toArray, List.set_cons_zero, List.set_cons_succ]
  refine wpAnyH_take (i := 16) (v := undef) rfl (by kernel_rfl) (by kernel_rfl) (by kernel_rfl) (fun _ _ _ h => h) (Or.inr ⟨by rfl, rfl⟩) (by assumption) ?_
  try simp only [List.getElem_toArray, List.getElem_cons_succ, List.getElem_cons_zero, Act.put, List.setIfInBounds_toArray, List.set_cons_zero, List.set_cons_succ]
  refine wpAnyH_take (i := 17) (v := undef) rfl (by kernel_rfl) (by kernel_rfl) (by kernel_rfl) (fun _ _ _ h => h) (Or.inr ⟨by rfl, rfl⟩) (by assumption) ?_
  try simp only [List.getElem_toArray, List.getElem_cons_succ, List.getElem_cons_zero, Act.put, List.setIfInBounds_toArray, List.set_cons_zero, List.set_cons_succ]
  refine wpAnyH_take (i := 18) (v := undef) rfl (by kernel_rfl) (by kernel_rfl) (by kernel_rfl) (fun _ _ _ h => h) (Or.inr ⟨by rfl, rfl⟩) (by assumption) ?_
  try simp only [List.getElem_toArray, List.getElem_cons_succ, List.getElem_cons_zero, Act.put, List.setIfInBounds_toArray, List.set_cons_zero, List.set_cons_succ]
  refine wpAnyH_take (i := 19) (v := undef) rfl (by kernel_rfl) (by kernel_rfl) (by kernel_rfl) (fun _ _ _ h => h) (Or.inr ⟨by rfl, rfl⟩) (by assumption) ?_
  try simp only [List.getElem_toArray, List.getElem_cons_succ, List.getElem_cons_zero, Act.put, List.setIfInBounds_toArray, List.set_cons_zero, List.set_cons_succ]
  refine wpAnyH_take (i := 20) (v := undef) rfl (by kernel_rfl) (by kernel_rfl) (by kernel_rfl) (fun _ _ _ h => h) (Or.inr ⟨by rfl, rfl⟩) (by assumption) ?_
  try simp only [List.getElem_toArray, List.getElem_cons_succ, List.getElem_cons_zero, Act.put, List.setIfInBounds_toArray, List.set_cons_zero, List.set_cons_succ]
  refine wpAnyH_take (i := 21) (v := undef) rfl (by kernel_rfl) (by kernel_rfl) (by kernel_rfl) (fun _ _ _ h => h) (Or.inr ⟨by rfl, rfl⟩) (by assumption) ?_
  try simp only [List.getElem_toArray, List.getElem_cons_succ, List.getElem_cons_zero, Act.put, List.setIfInBounds_toArray, List.set_cons_zero, List.set_cons_succ]
  refine wpAnyH_take (i := 22) (v := undef) rfl (by kernel_rfl) (by kernel_rfl) (by kernel_rfl) (fun _ _ _ h => h) (Or.inr ⟨by rfl, rfl⟩) (by assumption) ?_
  try simp only [List.getElem_toArray, List.getElem_cons_succ, List.getElem_cons_zero, Act.put, List.setIfInBounds_toArray, List.set_cons_zero, List.set_cons_succ]
  refine wpAnyH_take (i := 23) (v := undef) rfl (by kernel_rfl) (by kernel_rfl) (by kernel_rfl) (fun _ _ _ h => h) (Or.inr ⟨by rfl, rfl⟩) (by assumption) ?_
  try simp only [List.getElem_toArray, List.getElem_cons_succ, List.getElem_cons_zero, Act.put, List.setIfInBounds_toArray, List.set_cons_zero, List.set_cons_succ]
  refine wpAnyH_take (i := 24) (v := ?_) rfl (by kernel_rfl) (by kernel_rfl) (by kernel_rfl) (fun _ _ _ h => h) (Or.inl ⟨by rfl, ?_⟩) (by assumption) ?_
  rotate_left
  · (intro w hSw; (try dsimp only at hSw); go_simp; try with_reducible rfl)
  try simp only [List.getElem_toArray, List.getElem_cons_succ, List.getElem_cons_zero, Act.put, List.setIfInBounds_toArray, List.set_cons_zero, List.set_cons_succ]
  refine wpAnyH_done (by kernel_rfl) ?_ _
  go_wp2_with fail
  go_ret
  exact ⟨rfl, HBE.out.only hHeld (by simp), HWE.out.trans (hHeld.mono (by simp))⟩
end
section
open Go.RowKit Go.Deep Go.Maps Go.WideMaps

theorem info_bool : (Try.prog.info? 4).map (fun i => (i.zero, i.size, i.bytes)) = some (some (.bool false), 1, 1) := by kernel_rfl
set_option maxRecDepth 100000 in
set_option maxHeartbeats 6400000 in
theorem read_d (w : World) (g k m n sb : Nat) (D : DataW Unit) (keys : Value) (hb : KAt g (some ⟨k, 0, none⟩) (⟨#[100, 40, 97, 49, 44, 97, 50, 41]⟩ : ByteArray) 0 w) (hk : KnowIs k m n sb D keys w) (hkg : k ≠ g) (hmg : m ≠ g)
    (h1 : hadB D (⟨#[97, 49]⟩ : ByteArray) = false) (h2 : hadB D (⟨#[97, 50]⟩ : ByteArray) = true) (h3 : hadB D (⟨#[100, 40, 97, 49, 44, 97, 50, 41]⟩ : ByteArray) = false) (h4 : hadB D (⟨#[112, 40, 97, 49, 41]⟩ : ByteArray) = true) :
    Calls Try.prog 67 #[.pointer (some ⟨g, 0, none⟩)] w (ReadKPost g (some ⟨k, 0, none⟩) (⟨#[100, 40, 97, 49, 44, 97, 50, 41]⟩ : ByteArray) 8 true w) := by
  have HB := hide hb
  have HKN := hide hk
  have HW := hide (Only.refl [g] w)
  have HGL := hide hb.lt
  obtain ⟨ib, hbi, hb0, hb1, hb2⟩ := info_parts info_bool
  obtain ⟨is, his, hs0, hs1, hs2⟩ := info_parts info_string
  have HA := hide (fun W (h : KAt g (some ⟨k, 0, none⟩) (⟨#[100, 40, 97, 49, 44, 97, 50, 41]⟩ : ByteArray) 2 W) (h2 : KnowIs k m n sb D keys W) => read_atom W g k m n sb D keys (⟨#[100, 40, 97, 49, 44, 97, 50, 41]⟩ : ByteArray) 2 h h2 hkg hmg (by decide) (by unfold maxLen; show 8 ≤ _; omega) (by decide) (by decide) (by decide) (by decide) (by decide))
  unfold ReadKPost at HA
  rw [show send (⟨#[100, 40, 97, 49, 44, 97, 50, 41]⟩ : ByteArray) (2 + 1) = 4 by kernel_rfl, show ByteArray.extract (⟨#[100, 40, 97, 49, 44, 97, 50, 41]⟩ : ByteArray) 2 4 = (⟨#[97, 49]⟩ : ByteArray) by kernel_rfl, h1] at HA
  have HC := hide (fun W (h : KAt g (some ⟨k, 0, none⟩) (⟨#[100, 40, 97, 49, 44, 97, 50, 41]⟩ : ByteArray) 5 W) (h2 : KnowIs k m n sb D keys W) => read_atom W g k m n sb D keys (⟨#[100, 40, 97, 49, 44, 97, 50, 41]⟩ : ByteArray) 5 h h2 hkg hmg (by decide) (by unfold maxLen; show 8 ≤ _; omega) (by decide) (by decide) (by decide) (by decide) (by decide))
  unfold ReadKPost at HC
  rw [show send (⟨#[100, 40, 97, 49, 44, 97, 50, 41]⟩ : ByteArray) (5 + 1) = 7 by kernel_rfl, show ByteArray.extract (⟨#[100, 40, 97, 49, 44, 97, 50, 41]⟩ : ByteArray) 5 7 = (⟨#[97, 50]⟩ : ByteArray) by kernel_rfl, h2] at HC
  have HP := hide (fun W (h : KAt g (some ⟨k, 0, none⟩) (⟨#[100, 40, 97, 49, 44, 97, 50, 41]⟩ : ByteArray) 8 W) (h2 : KnowIs k m n sb D keys W) => public_any W g k m n sb D keys (⟨#[100, 40, 97, 49, 44, 97, 50, 41]⟩ : ByteArray) (⟨#[97, 49]⟩ : ByteArray) 8 h h2 (by decide))
  unfold RetB at HP
  rw [show (⟨#[112, 40]⟩ ++ (⟨#[97, 49]⟩ : ByteArray) ++ ⟨#[41]⟩ : ByteArray) = (⟨#[112, 40, 97, 49, 41]⟩ : ByteArray) by kernel_rfl, h4] at HP
  have h30 := hide (show hadB D (ByteArray.extract (⟨#[100, 40, 97, 49, 44, 97, 50, 41]⟩ : ByteArray) 0 8) = false by rw [show ByteArray.extract (⟨#[100, 40, 97, 49, 44, 97, 50, 41]⟩ : ByteArray) 0 8 = (⟨#[100, 40, 97, 49, 44, 97, 50, 41]⟩ : ByteArray) by kernel_rfl]; exact h3)
  have k0 := HB.out.cell 0; have k1 := HB.out.cell 1; have k2 := HB.out.cell 2; have f2 := HB.out.frozen 2; simp at k0 k1 k2
  clear hb hk h1 h2 h3 h4
  go_enter Try.func67, Try.ntmps67
  go_wp2_with fail
  go_quiet (fail)
  go_wp2_with fail
  refine wp_loop_rounds 3 ?_
  have HKL := hide (show k < w.heap.size ∧ m < w.heap.size from ⟨HKN.out.1.lt, World.ownsMap.lt HKN.out.2⟩)
  rw [rounds_succ]
  go_wp2_with fail
  go_quiet (fail)
  go_wp2_with fail
  go_quiet (fail)
  go_upto_region 26 with (go_at_call 67; refine (HA.out _ (by exact ((((HB.out.drewN _).set_ 2 _).set_ 2 _).drewN _)) (HKN.out.only ((((((Only.refl [g] _).drewN _).setCell (p := ⟨g, 2, none⟩) (.inl (by simp)) _).setCell (p := ⟨g, 2, none⟩) (.inl (by simp)) _).drewN _)) (by simp; exact hkg) (by simp; exact hmg))).mono ?_; rintro e r1 ⟨rfl, hk1, ho⟩; replace HKN := hide (HKN.out.only ((((((Only.refl [g] _).drewN _).setCell (p := ⟨g, 2, none⟩) (.inl (by simp)) _).setCell (p := ⟨g, 2, none⟩) (.inl (by simp)) _).drewN _).trans ho) (by simp; exact hkg) (by simp; exact hmg)); replace HB := hide hk1; replace HW := hide (((((HW.out.drewN _).setCell (p := ⟨g, 2, none⟩) (.inl (by simp)) _).setCell (p := ⟨g, 2, none⟩) (.inl (by simp)) _).drewN _).trans ho); clear ho hk1 k0 k1 k2 f2; have k0 := HB.out.cell 0; have k1 := HB.out.cell 1; have k2 := HB.out.cell 2; have f2 := HB.out.frozen 2; simp at k0 k1 k2)
  have HOC := hide (show r1.ownsRow w.heap.size 4 1 (.slice none 0 0) 0 [] from World.ownsRow_nil _ _ _ _)
  have HOP := hide (show r1.ownsRow w.heap.size 9 1 (.slice none 0 0) 0 [] from World.ownsRow_nil _ _ _ _)
  have HSZ := hide HW.out.size
  have HOCa := hide (HOC.out.alloc (.cells #[.bool false] 4))
  have HRN := hide (reads_one r1 4 (.bool false) (r1.heap.size + 1) (Nat.lt_succ_self _))
  go_upto_region 27 with (at_builtin; refine wpList_append_any _ rfl (.tmp 122) (.tmp 124) 118 rfl w.heap.size 4 ib (.bool false) 1 1 Try.underlying118 hbi hb0 hb1 hb2 rfl (by decide) (.slice none 0 0) 0 [] rfl HOCa.out _ _ 1 1 [.bool false] rfl HRN.out (by simp [Value.oneCell']) (by unfold maxLen; omega) (by omega) (by have := HSZ.out; simp; omega) ?_; intro v1 c1 hown1 hg1 hb1x; obtain ⟨gc1, cc1, rfl⟩ := Go.Joins.ownsRow_form hown1 (by omega); replace HB := hide ((HB.out.alloc _).grown hg1 (fun h => (by have := own_block_ge HOCa.out h.symm; have := HGL.out; omega))); replace HKN := hide (show KnowIs k m n sb D keys c1 from ⟨(HKN.out.1.alloc _).grown hg1 (fun h => (by have := own_block_ge HOCa.out h.symm; have := HKL.out.1; omega)), HKN.out.2.alloc _ |>.kept hg1 (fun h => (by have := own_block_ge HOCa.out h.symm; have := HKL.out.2; omega))⟩); replace HOP := hide (HOP.out.alloc (.cells #[.bool false] 4) |>.kept hg1 (.inl rfl)); replace HW := hide (((HW.out.alloc _)).grown hg1 (fun j hj => .inr (own_block_ge HOCa.out hj))); have HCX := hide hb1x; replace HOC := hide (show c1.ownsRow w.heap.size 4 1 (.slice (some ⟨gc1, 0, none⟩) 1 cc1) 1 ([] ++ [.bool false]) from hown1); clear hown1 hg1 hb1x HOCa HRN k0 k1 k2 f2; have k0 := HB.out.cell 0; have k1 := HB.out.cell 1; have k2 := HB.out.cell 2; have f2 := HB.out.frozen 2; simp at k0 k1 k2)
  have HOPa := hide (World.ownsRow.alloc (own_only HOP.out ((Only.refl [] c1).drew) (by simp)) (.cells #[.string (⟨#[97, 49]⟩ : ByteArray)] 9))
  have HRN := hide (reads_one c1.drew 9 (.string (⟨#[97, 49]⟩ : ByteArray)) (c1.heap.size + 1) (Nat.lt_succ_self _))
  have HSZ2 := hide HW.out.size
  have hexx : (ByteArray.extract (⟨#[100, 40, 97, 49, 44, 97, 50, 41]⟩ : ByteArray) 2 4) = (⟨#[97, 49]⟩ : ByteArray) := by kernel_rfl
  refine wp_region_held_drew (S := fun W => KAt g (some ⟨k, 0, none⟩) (⟨#[100, 40, 97, 49, 44, 97, 50, 41]⟩ : ByteArray) 4 W ∧ Only [g] w W) (by kernel_rfl) (by exact ⟨HB.out.drew, HW.out.drew⟩) (fun hHeld => ?_)
  refine wpAnyH_take (i := 0) (v := ?_) rfl (by kernel_rfl) (by kernel_rfl) (by kernel_rfl) (fun _ _ _ h => h) (Or.inl ⟨by rfl, ?_⟩) (by assumption) ?_
  rotate_left
  · (intro w hSw; (try dsimp only at hSw); go_simp; try with_reducible rfl)
  try simp only [List.getElem_toArray, List.getElem_cons_succ, List.getElem_cons_zero, Act.put, List.setIfInBounds_toArray, List.set_cons_zero, List.set_cons_succ]
  refine wpAnyH_take (i := 1) (v := ?_) rfl (by kernel_rfl) (by kernel_rfl) (by kernel_rfl) (fun _ _ _ h => h) (Or.inl ⟨by rfl, ?_⟩) (by assumption) ?_
  rotate_left
  · (intro w hSw; (try dsimp only at hSw); go_simp; try with_reducible rfl)
  try simp only [List.getElem_toArray, List.getElem_cons_succ, List.getElem_cons_zero, Act.put, List.setIfInBounds_toArray, List.set_cons_zero, List.set_cons_succ]
  refine wpAnyH_take (i := 2) (v := ?_) rfl (by kernel_rfl) (by kernel_rfl) (by kernel_rfl) (fun _ _ _ h => h) (Or.inl ⟨by rfl, ?_⟩) (by assumption) ?_
  rotate_left
  · (intro w hSw; (try dsimp only at hSw); go_simp; try with_reducible rfl)
  try simp only [List.getElem_toArray, List.getElem_cons_succ, List.getElem_cons_zero, Act.put, List.setIfInBounds_toArray, List.set_cons_zero, List.set_cons_succ]
  refine wpAnyH_take (i := 3) (v := ?_) rfl (by kernel_rfl) (by kernel_rfl) (by kernel_rfl) (fun _ _ _ h => h) (Or.inl ⟨by rfl, ?_⟩) (by assumption) ?_
  rotate_left
  · (intro w hSw; (try dsimp only at hSw); go_simp; try with_reducible rfl)
  try simp only [List.getElem_toArray, List.getElem_cons_succ, List.getElem_cons_zero, Act.put, List.setIfInBounds_toArray, List.set_cons_zero, List.set_cons_succ]
  refine wpAnyH_take (i := 4) (v := ?_) rfl (by kernel_rfl) (by kernel_rfl) (by kernel_rfl) (fun _ _ _ h => h) (Or.inl ⟨by rfl, ?_⟩) (by assumption) ?_
  rotate_left
  · (intro w hSw; (try dsimp only at hSw); have hBw := hSw.1; have q1 := hBw.cell 1; have q2 := hBw.cell 2; simp at q1 q2; go_simp; try with_reducible rfl)
  try simp only [List.getElem_toArray, List.getElem_cons_succ, List.getElem_cons_zero, Act.put, List.setIfInBounds_toArray, List.set_cons_zero, List.set_cons_succ]
  refine wpAnyH_take (i := 5) (v := ?_) rfl (by kernel_rfl) (by kernel_rfl) (by kernel_rfl) (fun _ _ _ h => h) (Or.inl ⟨by rfl, ?_⟩) (by assumption) ?_
  rotate_left
  · (intro w hSw; (try dsimp only at hSw); go_simp; try with_reducible rfl)
  try simp only [List.getElem_toArray, List.getElem_cons_succ, List.getElem_cons_zero, Act.put, List.setIfInBounds_toArray, List.set_cons_zero, List.set_cons_succ]
  refine wpAnyH_take (i := 6) (v := ?_) rfl (by kernel_rfl) (by kernel_rfl) (by kernel_rfl) (fun _ _ _ h => h) (Or.inl ⟨by rfl, ?_⟩) (by assumption) ?_
  rotate_left
  · (intro w hSw; (try dsimp only at hSw); go_simp; try with_reducible rfl)
  try simp only [List.getElem_toArray, List.getElem_cons_succ, List.getElem_cons_zero, Act.put, List.setIfInBounds_toArray, List.set_cons_zero, List.set_cons_succ]
  refine wpAnyH_take (i := 7) (v := ?_) rfl (by kernel_rfl) (by kernel_rfl) (by kernel_rfl) (fun _ _ _ h => h) (Or.inl ⟨by rfl, ?_⟩) (by assumption) ?_
  rotate_left
  · (intro w hSw; (try dsimp only at hSw); go_simp; try with_reducible rfl)
  try simp only [List.getElem_toArray, List.getElem_cons_succ, List.getElem_cons_zero, Act.put, List.setIfInBounds_toArray, List.set_cons_zero, List.set_cons_succ]
  refine wpAnyH_take (i := 8) (v := ?_) rfl (by kernel_rfl) (by kernel_rfl) (by kernel_rfl) (fun _ _ _ h => h) (Or.inl ⟨by rfl, ?_⟩) (by assumption) ?_
  rotate_left
  · (intro w hSw; (try dsimp only at hSw); go_simp; try with_reducible rfl)
  try simp only [List.getElem_toArray, List.getElem_cons_succ, List.getElem_cons_zero, Act.put, List.setIfInBounds_toArray, List.set_cons_zero, List.set_cons_succ]
  refine wpAnyH_take (i := 9) (v := ?_) rfl (by kernel_rfl) (by kernel_rfl) (by kernel_rfl) (fun _ _ _ h => h) (Or.inl ⟨by rfl, ?_⟩) (by assumption) ?_
  rotate_left
  · (intro w hSw; (try dsimp only at hSw); have hBw := hSw.1; have q1 := hBw.cell 1; have q2 := hBw.cell 2; simp at q1 q2; go_simp; try with_reducible rfl)
  try simp only [List.getElem_toArray, List.getElem_cons_succ, List.getElem_cons_zero, Act.put, List.setIfInBounds_toArray, List.set_cons_zero, List.set_cons_succ]
  refine wpAnyH_take (i := 10) (v := ?_) rfl (by kernel_rfl) (by kernel_rfl) (by kernel_rfl) (fun _ _ _ h => h) (Or.inl ⟨by rfl, ?_⟩) (by assumption) ?_
  rotate_left
  · (intro w hSw; (try dsimp only at hSw); go_simp; try with_reducible rfl)
  try simp only [List.getElem_toArray, List.getElem_cons_succ, List.getElem_cons_zero, Act.put, List.setIfInBounds_toArray, List.set_cons_zero, List.set_cons_succ]
  refine wpAnyH_ready (rs := [11]) (by kernel_rfl) (by simp) ?_
  refine AllReadyH.cons rfl (fun K hK => ?_) AllReadyH.nil
  go_simp
  refine hK.out _ _ (by exact ⟨hHeld.1.alloc _, hHeld.2.alloc _⟩) (fun hHeld => ?_)
  clear hK K
  try simp only [List.getElem_toArray, List.getElem_cons_succ, List.getElem_cons_zero, Act.put, List.setIfInBounds_toArray, List.set_cons_zero, List.set_cons_succ]
  refine wpAnyH_ready (rs := [12]) (by kernel_rfl) (by simp) ?_
  refine AllReadyH.cons rfl (fun K hK => ?_) AllReadyH.nil
  refine step_append_any _ rfl (.tmp 126) (.tmp 137) 50 rfl w.heap.size 9 is (.string ByteArray.empty) 1 16 Try.underlying50 his hs0 hs1 hs2 rfl (by decide) (.slice none 0 0) 0 [] rfl HOPa.out _ _ 1 1 [.string (⟨#[97, 49]⟩ : ByteArray)] rfl HRN.out (by simp [Value.oneCell']) (by unfold maxLen; omega) (by omega) (by have := HSZ2.out; simp; omega) ?_
  intro v2 p1 hown2 hg2 hb2x
  obtain ⟨gp1, cp1, rfl⟩ := Go.Joins.ownsRow_form hown2 (by omega)
  have hs27 : KAt g (some ⟨k, 0, none⟩) (⟨#[100, 40, 97, 49, 44, 97, 50, 41]⟩ : ByteArray) 4 p1 ∧ Only [g] w p1 := ⟨hHeld.1.grown hg2 (fun h => (by have := own_block_ge HOPa.out h.symm; have := HGL.out; omega)), hHeld.2.grown hg2 (fun j hj => .inr (own_block_ge HOPa.out hj))⟩
  replace HKN := hide (show KnowIs k m n sb D keys p1 from ⟨((HKN.out.1.drew).alloc _).grown hg2 (fun h => (by have := own_block_ge HOPa.out h.symm; have := HKL.out.1; omega)), World.ownsMap.kept (World.ownsMap.alloc (World.ownsMap.drew HKN.out.2) _) hg2 (fun h => (by have := own_block_ge HOPa.out h.symm; have := HKL.out.2; omega))⟩)
  have HLC := hide ((HOC.out.lt gc1 rfl).2)
  have HLP := hide (HOPa.out.lt)
  replace HOC := hide (World.ownsRow.kept (World.ownsRow.alloc (own_only HOC.out ((Only.refl [] c1).drew) (by simp)) (.cells #[.string (⟨#[97, 49]⟩ : ByteArray)] 9)) hg2 (.inr (by simp [Value.ownBlock])))
  have HNE := hide (show gc1 ≠ gp1 by rcases hb2x with h | h <;> simp [Value.ownBlock] at h; have := HLC.out; omega)
  replace HOP := hide (show p1.ownsRow w.heap.size 9 1 (.slice (some ⟨gp1, 0, none⟩) 1 cp1) 1 ([] ++ [.string (⟨#[97, 49]⟩ : ByteArray)]) from hown2)
  have HLP0 := hide ((HOP.out.lt gp1 rfl).2)
  refine hK.out _ _ (by exact hs27) (fun hHeld => ?_)
  clear hK K
  try simp only [List.getElem_toArray, List.getElem_cons_succ, List.getElem_cons_zero, Act.put, List.setIfInBounds_toArray, List.set_cons_zero, List.set_cons_succ]
  refine wpAnyH_take (i := 13) (v := ?_) rfl (by kernel_rfl) (by kernel_rfl) (by kernel_rfl) (fun _ _ _ h => h) (Or.inl ⟨by rfl, ?_⟩) (by assumption) ?_
  rotate_left
  · (intro w hSw; (try dsimp only at hSw); go_simp; try with_reducible rfl)
  try simp only [List.getElem_toArray, List.getElem_cons_succ, List.getElem_cons_zero, Act.put, List.setIfInBounds_toArray, List.set_cons_zero, List.set_cons_succ]
  refine wpAnyH_done (by kernel_rfl) ?_ _
  replace HB := hide hs27.1; replace HW := hide hs27.2; clear hs27 hHeld hown2 hg2 hb2x HOPa HRN HSZ2 hexx HLP HSZ HLC k0 k1 k2 f2; have k0 := HB.out.cell 0; have k1 := HB.out.cell 1; have k2 := HB.out.cell 2; have f2 := HB.out.frozen 2; simp at k0 k1 k2
  go_wp2_with fail
  rw [rounds_succ]
  go_wp2_with fail
  go_quiet (fail)
  go_wp2_with fail
  go_quiet (fail)
  go_upto_region 26 with (go_at_call 67; refine (HC.out _ (by exact ((HB.out.drewN _).set_ 2 _)) (HKN.out.only ((((Only.refl [g] _).drewN _).setCell (p := ⟨g, 2, none⟩) (.inl (by simp)) _)) (by simp; exact hkg) (by simp; exact hmg))).mono ?_; rintro e r2 ⟨rfl, hk1, ho⟩; replace HOC := hide (own_only HOC.out ((((Only.refl [g] _).drewN _).setCell (p := ⟨g, 2, none⟩) (.inl (by simp)) _).trans ho) (by have := HGL.out; simp; omega)); replace HOP := hide (own_only HOP.out ((((Only.refl [g] _).drewN _).setCell (p := ⟨g, 2, none⟩) (.inl (by simp)) _).trans ho) (by have := HGL.out; simp; omega)); replace HKN := hide (HKN.out.only ((((Only.refl [g] _).drewN _).setCell (p := ⟨g, 2, none⟩) (.inl (by simp)) _).trans ho) (by simp; exact hkg) (by simp; exact hmg)); replace HB := hide hk1; replace HW := hide (((HW.out.drewN _).setCell (p := ⟨g, 2, none⟩) (.inl (by simp)) _).trans ho); clear ho hk1 k0 k1 k2 f2; have k0 := HB.out.cell 0; have k1 := HB.out.cell 1; have k2 := HB.out.cell 2; have f2 := HB.out.frozen 2; simp at k0 k1 k2)
  replace HLP0 := hide ((HOP.out.lt gp1 rfl).2)
  have HSZ := hide HW.out.size
  have HOCa := hide (HOC.out.alloc (.cells #[.bool true] 4))
  have HRN := hide (reads_one r2 4 (.bool true) (r2.heap.size + 1) (Nat.lt_succ_self _))
  go_upto_region 27 with (at_builtin; refine wpList_append_any _ rfl (.tmp 122) (.tmp 124) 118 rfl w.heap.size 4 ib (.bool false) 1 1 Try.underlying118 hbi hb0 hb1 hb2 rfl (by decide) (.slice (some ⟨gc1, 0, none⟩) 1 cc1) 1 [.bool false] rfl HOCa.out _ _ 1 1 [.bool true] rfl HRN.out (by simp [Value.oneCell']) (by unfold maxLen; omega) (by omega) (by have := HSZ.out; simp; omega) ?_; intro v1 c2 hown1 hg1 hb1x; obtain ⟨gc2, cc2, rfl⟩ := Go.Joins.ownsRow_form hown1 (by omega); replace HB := hide ((HB.out.alloc _).grown hg1 (fun h => (by have := own_block_ge HOCa.out h.symm; have := HGL.out; omega))); replace HKN := hide (show KnowIs k m n sb D keys c2 from ⟨(HKN.out.1.alloc _).grown hg1 (fun h => (by have := own_block_ge HOCa.out h.symm; have := HKL.out.1; omega)), HKN.out.2.alloc _ |>.kept hg1 (fun h => (by have := own_block_ge HOCa.out h.symm; have := HKL.out.2; omega))⟩); replace HOP := hide (HOP.out.alloc (.cells #[.bool true] 4) |>.kept hg1 (.inr (fun h => by have := HNE.out; simp [Value.ownBlock] at h; omega))); replace HW := hide (((HW.out.alloc _)).grown hg1 (fun j hj => .inr (own_block_ge HOCa.out hj))); have HCX := hide hb1x; replace HOC := hide (show c2.ownsRow w.heap.size 4 1 (.slice (some ⟨gc2, 0, none⟩) 2 cc2) 2 ([.bool false] ++ [.bool true]) from hown1); clear hown1 hg1 hb1x HOCa HRN k0 k1 k2 f2; have k0 := HB.out.cell 0; have k1 := HB.out.cell 1; have k2 := HB.out.cell 2; have f2 := HB.out.frozen 2; simp at k0 k1 k2)
  have HOPa := hide (World.ownsRow.alloc (own_only HOP.out ((Only.refl [] c2).drew) (by simp)) (.cells #[.string (⟨#[97, 50]⟩ : ByteArray)] 9))
  have HRN := hide (reads_one c2.drew 9 (.string (⟨#[97, 50]⟩ : ByteArray)) (c2.heap.size + 1) (Nat.lt_succ_self _))
  have HSZ2 := hide HW.out.size
  have hexx : (ByteArray.extract (⟨#[100, 40, 97, 49, 44, 97, 50, 41]⟩ : ByteArray) 5 7) = (⟨#[97, 50]⟩ : ByteArray) := by kernel_rfl
  refine wp_region_held_drew (S := fun W => KAt g (some ⟨k, 0, none⟩) (⟨#[100, 40, 97, 49, 44, 97, 50, 41]⟩ : ByteArray) 7 W ∧ Only [g] w W) (by kernel_rfl) (by exact ⟨HB.out.drew, HW.out.drew⟩) (fun hHeld => ?_)
  refine wpAnyH_take (i := 0) (v := ?_) rfl (by kernel_rfl) (by kernel_rfl) (by kernel_rfl) (fun _ _ _ h => h) (Or.inl ⟨by rfl, ?_⟩) (by assumption) ?_
  rotate_left
  · (intro w hSw; (try dsimp only at hSw); go_simp; try with_reducible rfl)
  try simp only [List.getElem_toArray, List.getElem_cons_succ, List.getElem_cons_zero, Act.put, List.setIfInBounds_toArray, List.set_cons_zero, List.set_cons_succ]
  refine wpAnyH_take (i := 1) (v := ?_) rfl (by kernel_rfl) (by kernel_rfl) (by kernel_rfl) (fun _ _ _ h => h) (Or.inl ⟨by rfl, ?_⟩) (by assumption) ?_
  rotate_left
  · (intro w hSw; (try dsimp only at hSw); go_simp; try with_reducible rfl)
  try simp only [List.getElem_toArray, List.getElem_cons_succ, List.getElem_cons_zero, Act.put, List.setIfInBounds_toArray, List.set_cons_zero, List.set_cons_succ]
  refine wpAnyH_take (i := 2) (v := ?_) rfl (by kernel_rfl) (by kernel_rfl) (by kernel_rfl) (fun _ _ _ h => h) (Or.inl ⟨by rfl, ?_⟩) (by assumption) ?_
  rotate_left
  · (intro w hSw; (try dsimp only at hSw); go_simp; try with_reducible rfl)
  try simp only [List.getElem_toArray, List.getElem_cons_succ, List.getElem_cons_zero, Act.put, List.setIfInBounds_toArray, List.set_cons_zero, List.set_cons_succ]
  refine wpAnyH_take (i := 3) (v := ?_) rfl (by kernel_rfl) (by kernel_rfl) (by kernel_rfl) (fun _ _ _ h => h) (Or.inl ⟨by rfl, ?_⟩) (by assumption) ?_
  rotate_left
  · (intro w hSw; (try dsimp only at hSw); go_simp; try with_reducible rfl)
  try simp only [List.getElem_toArray, List.getElem_cons_succ, List.getElem_cons_zero, Act.put, List.setIfInBounds_toArray, List.set_cons_zero, List.set_cons_succ]
  refine wpAnyH_take (i := 4) (v := ?_) rfl (by kernel_rfl) (by kernel_rfl) (by kernel_rfl) (fun _ _ _ h => h) (Or.inl ⟨by rfl, ?_⟩) (by assumption) ?_
  rotate_left
  · (intro w hSw; (try dsimp only at hSw); have hBw := hSw.1; have q1 := hBw.cell 1; have q2 := hBw.cell 2; simp at q1 q2; go_simp; try with_reducible rfl)
  try simp only [List.getElem_toArray, List.getElem_cons_succ, List.getElem_cons_zero, Act.put, List.setIfInBounds_toArray, List.set_cons_zero, List.set_cons_succ]
  refine wpAnyH_take (i := 5) (v := ?_) rfl (by kernel_rfl) (by kernel_rfl) (by kernel_rfl) (fun _ _ _ h => h) (Or.inl ⟨by rfl, ?_⟩) (by assumption) ?_
  rotate_left
  · (intro w hSw; (try dsimp only at hSw); go_simp; try with_reducible rfl)
  try simp only [List.getElem_toArray, List.getElem_cons_succ, List.getElem_cons_zero, Act.put, List.setIfInBounds_toArray, List.set_cons_zero, List.set_cons_succ]
  refine wpAnyH_take (i := 6) (v := ?_) rfl (by kernel_rfl) (by kernel_rfl) (by kernel_rfl) (fun _ _ _ h => h) (Or.inl ⟨by rfl, ?_⟩) (by assumption) ?_
  rotate_left
  · (intro w hSw; (try dsimp only at hSw); go_simp; try with_reducible rfl)
  try simp only [List.getElem_toArray, List.getElem_cons_succ, List.getElem_cons_zero, Act.put, List.setIfInBounds_toArray, List.set_cons_zero, List.set_cons_succ]
  refine wpAnyH_take (i := 7) (v := ?_) rfl (by kernel_rfl) (by kernel_rfl) (by kernel_rfl) (fun _ _ _ h => h) (Or.inl ⟨by rfl, ?_⟩) (by assumption) ?_
  rotate_left
  · (intro w hSw; (try dsimp only at hSw); go_simp; try with_reducible rfl)
  try simp only [List.getElem_toArray, List.getElem_cons_succ, List.getElem_cons_zero, Act.put, List.setIfInBounds_toArray, List.set_cons_zero, List.set_cons_succ]
  refine wpAnyH_take (i := 8) (v := ?_) rfl (by kernel_rfl) (by kernel_rfl) (by kernel_rfl) (fun _ _ _ h => h) (Or.inl ⟨by rfl, ?_⟩) (by assumption) ?_
  rotate_left
  · (intro w hSw; (try dsimp only at hSw); go_simp; try with_reducible rfl)
  try simp only [List.getElem_toArray, List.getElem_cons_succ, List.getElem_cons_zero, Act.put, List.setIfInBounds_toArray, List.set_cons_zero, List.set_cons_succ]
  refine wpAnyH_take (i := 9) (v := ?_) rfl (by kernel_rfl) (by kernel_rfl) (by kernel_rfl) (fun _ _ _ h => h) (Or.inl ⟨by rfl, ?_⟩) (by assumption) ?_
  rotate_left
  · (intro w hSw; (try dsimp only at hSw); have hBw := hSw.1; have q1 := hBw.cell 1; have q2 := hBw.cell 2; simp at q1 q2; go_simp; try with_reducible rfl)
  try simp only [List.getElem_toArray, List.getElem_cons_succ, List.getElem_cons_zero, Act.put, List.setIfInBounds_toArray, List.set_cons_zero, List.set_cons_succ]
  refine wpAnyH_take (i := 10) (v := ?_) rfl (by kernel_rfl) (by kernel_rfl) (by kernel_rfl) (fun _ _ _ h => h) (Or.inl ⟨by rfl, ?_⟩) (by assumption) ?_
  rotate_left
  · (intro w hSw; (try dsimp only at hSw); go_simp; try with_reducible rfl)
  try simp only [List.getElem_toArray, List.getElem_cons_succ, List.getElem_cons_zero, Act.put, List.setIfInBounds_toArray, List.set_cons_zero, List.set_cons_succ]
  refine wpAnyH_ready (rs := [11]) (by kernel_rfl) (by simp) ?_
  refine AllReadyH.cons rfl (fun K hK => ?_) AllReadyH.nil
  go_simp
  refine hK.out _ _ (by exact ⟨hHeld.1.alloc _, hHeld.2.alloc _⟩) (fun hHeld => ?_)
  clear hK K
  try simp only [List.getElem_toArray, List.getElem_cons_succ, List.getElem_cons_zero, Act.put, List.setIfInBounds_toArray, List.set_cons_zero, List.set_cons_succ]
  refine wpAnyH_ready (rs := [12]) (by kernel_rfl) (by simp) ?_
  refine AllReadyH.cons rfl (fun K hK => ?_) AllReadyH.nil
  refine step_append_any _ rfl (.tmp 126) (.tmp 137) 50 rfl w.heap.size 9 is (.string ByteArray.empty) 1 16 Try.underlying50 his hs0 hs1 hs2 rfl (by decide) (.slice (some ⟨gp1, 0, none⟩) 1 cp1) 1 [.string (⟨#[97, 49]⟩ : ByteArray)] rfl HOPa.out _ _ 1 1 [.string (⟨#[97, 50]⟩ : ByteArray)] rfl HRN.out (by simp [Value.oneCell']) (by unfold maxLen; omega) (by omega) (by have := HSZ2.out; simp; omega) ?_
  intro v2 p2 hown2 hg2 hb2x
  obtain ⟨gp2, cp2, rfl⟩ := Go.Joins.ownsRow_form hown2 (by omega)
  have hs27 : KAt g (some ⟨k, 0, none⟩) (⟨#[100, 40, 97, 49, 44, 97, 50, 41]⟩ : ByteArray) 7 p2 ∧ Only [g] w p2 := ⟨hHeld.1.grown hg2 (fun h => (by have := own_block_ge HOPa.out h.symm; have := HGL.out; omega)), hHeld.2.grown hg2 (fun j hj => .inr (own_block_ge HOPa.out hj))⟩
  replace HKN := hide (show KnowIs k m n sb D keys p2 from ⟨((HKN.out.1.drew).alloc _).grown hg2 (fun h => (by have := own_block_ge HOPa.out h.symm; have := HKL.out.1; omega)), World.ownsMap.kept (World.ownsMap.alloc (World.ownsMap.drew HKN.out.2) _) hg2 (fun h => (by have := own_block_ge HOPa.out h.symm; have := HKL.out.2; omega))⟩)
  have HLC := hide ((HOC.out.lt gc2 rfl).2)
  have HLP := hide (HOPa.out.lt)
  have HNE2 := hide (show gc2 ≠ gp1 by rcases HCX.out with h | h <;> simp [Value.ownBlock] at h <;> have := HNE.out <;> have := HLP0.out <;> omega)
  replace HOC := hide (World.ownsRow.kept (World.ownsRow.alloc (own_only HOC.out ((Only.refl [] c2).drew) (by simp)) (.cells #[.string (⟨#[97, 50]⟩ : ByteArray)] 9)) hg2 (.inr (fun h => by have := HNE2.out; simp [Value.ownBlock] at h; omega)))
  replace HOP := hide (show p2.ownsRow w.heap.size 9 1 (.slice (some ⟨gp2, 0, none⟩) 2 cp2) 2 ([.string (⟨#[97, 49]⟩ : ByteArray)] ++ [.string (⟨#[97, 50]⟩ : ByteArray)]) from hown2)
  refine hK.out _ _ (by exact hs27) (fun hHeld => ?_)
  clear hK K
  try simp only [List.getElem_toArray, List.getElem_cons_succ, List.getElem_cons_zero, Act.put, List.setIfInBounds_toArray, List.set_cons_zero, List.set_cons_succ]
  refine wpAnyH_take (i := 13) (v := ?_) rfl (by kernel_rfl) (by kernel_rfl) (by kernel_rfl) (fun _ _ _ h => h) (Or.inl ⟨by rfl, ?_⟩) (by assumption) ?_
  rotate_left
  · (intro w hSw; (try dsimp only at hSw); go_simp; try with_reducible rfl)
  try simp only [List.getElem_toArray, List.getElem_cons_succ, List.getElem_cons_zero, Act.put, List.setIfInBounds_toArray, List.set_cons_zero, List.set_cons_succ]
  refine wpAnyH_done (by kernel_rfl) ?_ _
  replace HB := hide hs27.1; replace HW := hide hs27.2; clear hs27 hHeld hown2 hg2 hb2x HOPa HRN HSZ2 hexx HLP HSZ HLC k0 k1 k2 f2; have k0 := HB.out.cell 0; have k1 := HB.out.cell 1; have k2 := HB.out.cell 2; have f2 := HB.out.frozen 2; simp at k0 k1 k2
  go_wp2_with fail
  rw [rounds_succ]
  go_wp2_with fail
  go_quiet (fail)
  go_upto_region 29 with fail
  have HBE := hide (show KAt g (some ⟨k, 0, none⟩) (⟨#[100, 40, 97, 49, 44, 97, 50, 41]⟩ : ByteArray) 8 ((p2.drewN nq).setCell ⟨g, 2, none⟩ (.int .i64 8)) from (HB.out.drewN _).set_ 2 _)
  have hoe : Only [g] p2 ((p2.drewN nq).setCell ⟨g, 2, none⟩ (.int .i64 8)) := ((Only.refl [g] p2).drewN _).setCell (p := ⟨g, 2, none⟩) (.inl (by simp)) _
  have HWE := hide (HW.out.trans hoe)
  replace HKN := hide (HKN.out.only hoe (by simp; exact hkg) (by simp; exact hmg))
  replace HOC := hide (own_only HOC.out hoe (by have := HGL.out; simp; omega)); replace HOP := hide (own_only HOP.out hoe (by have := HGL.out; simp; omega))
  clear hoe k0 k1 k2 f2
  generalize ((p2.drewN nq).setCell ⟨g, 2, none⟩ (.int .i64 8)) = wE at *
  refine wp_region_held_drew (S := fun W => Only [] wE W) (by kernel_rfl) (by exact (Only.refl [] wE).drew) (fun hHeld => ?_)
  refine wpAnyH_take (i := 0) (v := ?_) rfl (by kernel_rfl) (by kernel_rfl) (by kernel_rfl) (fun _ _ _ h => h) (Or.inl ⟨by rfl, ?_⟩) (by assumption) ?_
  rotate_left
  · (intro w hSw; (try dsimp only at hSw); go_simp; try with_reducible rfl)
  try simp only [List.getElem_toArray, List.getElem_cons_succ, List.getElem_cons_zero, Act.put, List.setIfInBounds_toArray, List.set_cons_zero, List.set_cons_succ]
  refine wpAnyH_take (i := 1) (v := ?_) rfl (by kernel_rfl) (by kernel_rfl) (by kernel_rfl) (fun _ _ _ h => h) (Or.inl ⟨by rfl, ?_⟩) (by assumption) ?_
  rotate_left
  · (intro w hSw; (try dsimp only at hSw); go_simp; try with_reducible rfl)
  try simp only [List.getElem_toArray, List.getElem_cons_succ, List.getElem_cons_zero, Act.put, List.setIfInBounds_toArray, List.set_cons_zero, List.set_cons_succ]
  refine wpAnyH_take (i := 2) (v := undef) rfl (by kernel_rfl) (by kernel_rfl) (by kernel_rfl) (fun _ _ _ h => h) (Or.inr ⟨by rfl, rfl⟩) (by assumption) ?_
  try simp only [List.getElem_toArray, List.getElem_cons_succ, List.getElem_cons_zero, Act.put, List.setIfInBounds_toArray, List.set_cons_zero, List.set_cons_succ]
  refine wpAnyH_take (i := 3) (v := undef) rfl (by kernel_rfl) (by kernel_rfl) (by kernel_rfl) (fun _ _ _ h => h) (Or.inr ⟨by rfl, rfl⟩) (by assumption) ?_
  try simp only [List.getElem_toArray, List.getElem_cons_succ, List.getElem_cons_zero, Act.put, List.setIfInBounds_toArray, List.set_cons_zero, List.set_cons_succ]
  refine wpAnyH_take (i := 4) (v := ?_) rfl (by kernel_rfl) (by kernel_rfl) (by kernel_rfl) (fun _ _ _ h => h) (Or.inl ⟨by rfl, ?_⟩) (by assumption) ?_
  rotate_left
  · (intro w hSw; (try dsimp only at hSw); go_simp; try with_reducible rfl)
  try simp only [List.getElem_toArray, List.getElem_cons_succ, List.getElem_cons_zero, Act.put, List.setIfInBounds_toArray, List.set_cons_zero, List.set_cons_succ]
  refine wpAnyH_take (i := 5) (v := ?_) rfl (by kernel_rfl) (by kernel_rfl) (by kernel_rfl) (fun _ _ _ h => h) (Or.inl ⟨by rfl, ?_⟩) (by assumption) ?_
  rotate_left
  · (intro w hSw; (try dsimp only at hSw); go_simp; try with_reducible rfl)
  try simp only [List.getElem_toArray, List.getElem_cons_succ, List.getElem_cons_zero, Act.put, List.setIfInBounds_toArray, List.set_cons_zero, List.set_cons_succ]
  refine wpAnyH_take (i := 6) (v := ?_) rfl (by kernel_rfl) (by kernel_rfl) (by kernel_rfl) (fun _ _ _ h => h) (Or.inl ⟨by rfl, ?_⟩) (by assumption) ?_
  rotate_left
  · (intro w hSw; (try dsimp only at hSw); go_simp; try with_reducible rfl)
  try simp only [List.getElem_toArray, List.getElem_cons_succ, List.getElem_cons_zero, Act.put, List.setIfInBounds_toArray, List.set_cons_zero, List.set_cons_succ]
  refine wpAnyH_take (i := 7) (v := ?_) rfl (by kernel_rfl) (by kernel_rfl) (by kernel_rfl) (fun _ _ _ h => h) (Or.inl ⟨by rfl, ?_⟩) (by assumption) ?_
  rotate_left
  · (intro w hSw; (try dsimp only at hSw); go_simp; try with_reducible rfl)
  try simp only [List.getElem_toArray, List.getElem_cons_succ, List.getElem_cons_zero, Act.put, List.setIfInBounds_toArray, List.set_cons_zero, List.set_cons_succ]
  refine wpAnyH_take (i := 8) (v := ?_) rfl (by kernel_rfl) (by kernel_rfl) (by kernel_rfl) (fun _ _ _ h => h) (Or.inl ⟨by rfl, ?_⟩) (by assumption) ?_
  rotate_left
  · (intro w hSw; (try dsimp only at hSw); go_simp; try with_reducible rfl)
  try simp only [List.getElem_toArray, List.getElem_cons_succ, List.getElem_cons_zero, Act.put, List.setIfInBounds_toArray, List.set_cons_zero, List.set_cons_succ]
  refine wpAnyH_take (i := 9) (v := ?_) rfl (by kernel_rfl) (by kernel_rfl) (by kernel_rfl) (fun _ _ _ h => h) (Or.inl ⟨by rfl, ?_⟩) (by assumption) ?_
  rotate_left
  · (intro w hSw; (try dsimp only at hSw); have hBw := HBE.out.only hSw (by simp); have hKw := HKN.out.only hSw (by simp) (by simp); have q0 := hBw.cell 0; have q1 := hBw.cell 1; have q2 := hBw.cell 2; have r0 := hKw.1.cell 0; simp at q0 q1 q2 r0; go_simp; try with_reducible rfl)
  try simp only [List.getElem_toArray, List.getElem_cons_succ, List.getElem_cons_zero, Act.put, List.setIfInBounds_toArray, List.set_cons_zero, List.set_cons_succ]
  refine wpAnyH_take (i := 10) (v := ?_) rfl (by kernel_rfl) (by kernel_rfl) (by kernel_rfl) (fun _ _ _ h => h) (Or.inl ⟨by rfl, ?_⟩) (by assumption) ?_
  rotate_left
  · (intro w hSw; (try dsimp only at hSw); go_simp; try with_reducible rfl)
  try simp only [List.getElem_toArray, List.getElem_cons_succ, List.getElem_cons_zero, Act.put, List.setIfInBounds_toArray, List.set_cons_zero, List.set_cons_succ]
  refine wpAnyH_take (i := 11) (v := ?_) rfl (by kernel_rfl) (by kernel_rfl) (by kernel_rfl) (fun _ _ _ h => h) (Or.inl ⟨by rfl, ?_⟩) (by assumption) ?_
  rotate_left
  · (intro w hSw; (try dsimp only at hSw); go_simp; try with_reducible rfl)
  try simp only [List.getElem_toArray, List.getElem_cons_succ, List.getElem_cons_zero, Act.put, List.setIfInBounds_toArray, List.set_cons_zero, List.set_cons_succ]
  refine wpAnyH_take (i := 12) (v := ?_) rfl (by kernel_rfl) (by kernel_rfl) (by kernel_rfl) (fun _ _ _ h => h) (Or.inl ⟨by rfl, ?_⟩) (by assumption) ?_
  rotate_left
  · (intro w hSw; (try dsimp only at hSw); have hBw := HBE.out.only hSw (by simp); have hKw := HKN.out.only hSw (by simp) (by simp); have q0 := hBw.cell 0; have q1 := hBw.cell 1; have q2 := hBw.cell 2; have r0 := hKw.1.cell 0; simp at q0 q1 q2 r0; go_simp; try with_reducible rfl)
  try simp only [List.getElem_toArray, List.getElem_cons_succ, List.getElem_cons_zero, Act.put, List.setIfInBounds_toArray, List.set_cons_zero, List.set_cons_succ]
  refine wpAnyH_take (i := 13) (v := ?_) rfl (by kernel_rfl) (by kernel_rfl) (by kernel_rfl) (fun _ _ _ h => h) (Or.inl ⟨by rfl, ?_⟩) (by assumption) ?_
  rotate_left
  · (intro w hSw; (try dsimp only at hSw); go_simp; try with_reducible rfl)
  try simp only [List.getElem_toArray, List.getElem_cons_succ, List.getElem_cons_zero, Act.put, List.setIfInBounds_toArray, List.set_cons_zero, List.set_cons_succ]
  refine wpAnyH_take (i := 14) (v := ?_) rfl (by kernel_rfl) (by kernel_rfl) (by kernel_rfl) (fun _ _ _ h => h) (Or.inl ⟨by rfl, ?_⟩) (by assumption) ?_
  rotate_left
  · (intro w hSw; (try dsimp only at hSw); go_simp; try with_reducible rfl)
  try simp only [List.getElem_toArray, List.getElem_cons_succ, List.getElem_cons_zero, Act.put, List.setIfInBounds_toArray, List.set_cons_zero, List.set_cons_succ]
  refine wpAnyH_take (i := 15) (v := ?_) rfl (by kernel_rfl) (by kernel_rfl) (by kernel_rfl) (fun _ _ _ h => h) (Or.inl ⟨by rfl, ?_⟩) (by assumption) ?_
  rotate_left
  · (intro w hSw; (try dsimp only at hSw); go_simp; try with_reducible rfl)
  try simp only [List.getElem_toArray, List.getElem_cons_succ, List.getElem_cons_zero, Act.put, List.setIfInBounds_toArray, List.set_cons_zero, List.set_cons_succ]
  refine wpAnyH_take (i := 16) (v := ?_) rfl (by kernel_rfl) (by kernel_rfl) (by kernel_rfl) (fun _ _ _ h => h) (Or.inl ⟨by rfl, ?_⟩) (by assumption) ?_
  rotate_left
  · (intro w hSw; (try dsimp only at hSw); have hBw := HBE.out.only hSw (by simp); have hKw := HKN.out.only hSw (by simp) (by simp); have q0 := hBw.cell 0; have q1 := hBw.cell 1; have q2 := hBw.cell 2; have r0 := hKw.1.cell 0; simp at q0 q1 q2 r0; go_simp; try with_reducible rfl)
  try simp only [List.getElem_toArray, List.getElem_cons_succ, List.getElem_cons_zero, Act.put, List.setIfInBounds_toArray, List.set_cons_zero, List.set_cons_succ]
  refine wpAnyH_take (i := 17) (v := ?_) rfl (by kernel_rfl) (by kernel_rfl) (by kernel_rfl) (fun _ _ _ h => h) (Or.inl ⟨by rfl, ?_⟩) (by assumption) ?_
  rotate_left
  · (intro w hSw; (try dsimp only at hSw); go_simp; try with_reducible rfl)
  try simp only [List.getElem_toArray, List.getElem_cons_succ, List.getElem_cons_zero, Act.put, List.setIfInBounds_toArray, List.set_cons_zero, List.set_cons_succ]
  refine wpAnyH_take (i := 18) (v := ?_) rfl (by kernel_rfl) (by kernel_rfl) (by kernel_rfl) (fun _ _ _ h => h) (Or.inl ⟨by rfl, ?_⟩) (by assumption) ?_
  rotate_left
  · (intro w hSw; (try dsimp only at hSw); go_simp; try with_reducible rfl)
  try simp only [List.getElem_toArray, List.getElem_cons_succ, List.getElem_cons_zero, Act.put, List.setIfInBounds_toArray, List.set_cons_zero, List.set_cons_succ]
  refine wpAnyH_take (i := 19) (v := ?_) rfl (by kernel_rfl) (by kernel_rfl) (by kernel_rfl) (fun _ _ _ h => h) (Or.inl ⟨by rfl, ?_⟩) (by assumption) ?_
  rotate_left
  · (intro w hSw; (try dsimp only at hSw); go_simp; try with_reducible rfl)
  try simp only [List.getElem_toArray, List.getElem_cons_succ, List.getElem_cons_zero, Act.put, List.setIfInBounds_toArray, List.set_cons_zero, List.set_cons_succ]
  refine wpAnyH_take (i := 20) (v := ?_) rfl (by kernel_rfl) (by kernel_rfl) (by kernel_rfl) (fun _ _ _ h => h) (Or.inl ⟨by rfl, ?_⟩) (by assumption) ?_
  rotate_left
  · (intro w hSw; (try dsimp only at hSw); go_simp; try with_reducible rfl)
  try simp only [List.getElem_toArray, List.getElem_cons_succ, List.getElem_cons_zero, Act.put, List.setIfInBounds_toArray, List.set_cons_zero, List.set_cons_succ]
  refine wpAnyH_take (i := 21) (v := ?_) rfl (by kernel_rfl) (by kernel_rfl) (by kernel_rfl) (fun _ _ _ h => h) (Or.inl ⟨by rfl, ?_⟩) (by assumption) ?_
  rotate_left
  · (intro w hSw; (try dsimp only at hSw); have hBw := HBE.out.only hSw (by simp); have hKw := HKN.out.only hSw (by simp) (by simp); have q0 := hBw.cell 0; have q1 := hBw.cell 1; have q2 := hBw.cell 2; have r0 := hKw.1.cell 0; simp at q0 q1 q2 r0; go_simp; try with_reducible rfl)
  try simp only [List.getElem_toArray, List.getElem_cons_succ, List.getElem_cons_zero, Act.put, List.setIfInBounds_toArray, List.set_cons_zero, List.set_cons_succ]
  refine wpAnyH_take (i := 22) (v := ?_) rfl (by kernel_rfl) (by kernel_rfl) (by kernel_rfl) (fun _ _ _ h => h) (Or.inl ⟨by rfl, ?_⟩) (by assumption) ?_
  rotate_left
  · (intro w hSw; (try dsimp only at hSw); go_simp; try with_reducible rfl)
  try simp only [List.getElem_toArray, List.getElem_cons_succ, List.getElem_cons_zero, Act.put, List.setIfInBounds_toArray, List.set_cons_zero, List.set_cons_succ]
  refine wpAnyH_take (i := 23) (v := ?_) rfl (by kernel_rfl) (by kernel_rfl) (by kernel_rfl) (fun _ _ _ h => h) (Or.inl ⟨by rfl, ?_⟩) (by assumption) ?_
  rotate_left
  · (intro w hSw; (try dsimp only at hSw); have hKw := HKN.out.only hSw (by simp) (by simp); have hl := hKw.2.run (ByteArray.extract (⟨#[100, 40, 97, 49, 44, 97, 50, 41]⟩ : ByteArray) 0 8) (by unfold maxLen; rw [ByteArray.size_extract]; show min 8 8 - 0 ≤ _; omega); rw [h30.out] at hl; go_simp; try with_reducible rfl)
  try simp only [List.getElem_toArray, List.getElem_cons_succ, List.getElem_cons_zero, Act.put, List.setIfInBounds_toArray, List.set_cons_zero, List.set_cons_succ]
  refine wpAnyH_take (i := 24) (v := ?_) rfl (by kernel_rfl) (by kernel_rfl) (by kernel_rfl) (fun _ _ _ h => h) (Or.inl ⟨by rfl, ?_⟩) (by assumption) ?_
  rotate_left
  · (intro w hSw; (try dsimp only at hSw); go_simp; try with_reducible rfl)
  try simp only [List.getElem_toArray, List.getElem_cons_succ, List.getElem_cons_zero, Act.put, List.setIfInBounds_toArray, List.set_cons_zero, List.set_cons_succ]
  refine wpAnyH_done (by kernel_rfl) ?_ _
  have HRC := hide (Rd.of_own (N := []) (own_only HOC.out hHeld (by simp)) (by simp)).1
  have HRP := hide (Rd.of_own (N := []) (own_only HOP.out hHeld (by simp)) (by simp)).1
  replace HBE := hide (HBE.out.only hHeld (by simp)); replace HKN := hide (HKN.out.only hHeld (by simp) (by simp)); replace HWE := hide (HWE.out.trans (hHeld.mono (by simp)))
  clear hHeld
  generalize wE.drew = wF at *
  obtain ⟨_, _, hAA, _, _, x0⟩ := HRC.out.at_.2.2.2 0 (.bool false) rfl; cases hAA; rw [Nat.add_zero] at x0; obtain ⟨_, _, hAA, _, _, x1⟩ := HRC.out.at_.2.2.2 1 (.bool true) rfl; cases hAA; obtain ⟨_, _, hAA, _, _, y0⟩ := HRP.out.at_.2.2.2 0 (.string (⟨#[97, 49]⟩ : ByteArray)) rfl; cases hAA; rw [Nat.add_zero] at y0
  go_wp2_with (go_at_call 76; refine (HP.out _ HBE.out HKN.out).mono ?_; rintro e wG ⟨rfl, ho⟩; replace HBE := hide (HBE.out.only ho (by simp)); replace HWE := hide (HWE.out.trans (ho.mono (by simp))); clear ho)
  go_ret
  exact ⟨rfl, HBE.out, HWE.out⟩
end
section
open Go.RowKit Go.Deep Go.Maps Go.WideMaps

theorem rd_less {w : World} {N : List Nat} {v : Value} {xs : List Value} (h : Rd w N v xs) : Rd w [] v xs := by
  obtain ⟨A, cap, hv, hc, hm, h⟩ := h
  refine ⟨A, cap, hv, hc, hm, ?_⟩
  rcases h with h | ⟨g, o, hA, _, hl, hcell⟩
  · exact .inl h
  · exact .inr ⟨g, o, hA, by simp, hl, hcell⟩
/-- read goes over the whole text s, and tells b, whoever has D. -/
def Reads0 (k m n sb : Nat) (D : DataW Unit) (keys : Value) (s : ByteArray) (q : Nat) (b : Bool) : Prop :=
  ∀ (W : World) (g : Nat), KAt g (some ⟨k, 0, none⟩) s 0 W → KnowIs k m n sb D keys W → k ≠ g → m ≠ g → Calls Try.prog 67 #[.pointer (some ⟨g, 0, none⟩)] W (ReadKPost g (some ⟨k, 0, none⟩) s q b W)
set_option maxRecDepth 100000 in
set_option maxHeartbeats 6400000 in
theorem made_of (w : World) (k m n sb : Nat) (D : DataW Unit) (keys : Value) (s : ByteArray) (q : Nat) (b : Bool) (hk : KnowIs k m n sb D keys w) (hR : Reads0 k m n sb D keys s q b) :
    Calls Try.prog 43 #[.pointer (some ⟨k, 0, none⟩), .string s] w (RetB b w) := by
  have HK := hide (hk.only ((Only.refl [] w).alloc (.cells #[.pointer (some ⟨k, 0, none⟩), .string s, .int .i64 0] 105)) (by simp) (by simp))
  have HB := hide (show KAt w.heap.size (some ⟨k, 0, none⟩) s 0 _ from Blk.new w 105 #[.pointer (some ⟨k, 0, none⟩), .string s, .int .i64 0])
  have hkl := hk.1.lt
  have hml := World.ownsMap.lt hk.2
  have HO := hide ((Only.refl [] w).alloc (.cells #[.pointer (some ⟨k, 0, none⟩), .string s, .int .i64 0] 105))
  have HR := hide (hR _ w.heap.size HB.out HK.out (by omega) (by omega))
  unfold ReadKPost at HR
  clear hk hkl hml hR
  go_enter Try.func43, Try.ntmps43
  go_wp2_with (go_at_call 67; refine HR.out.mono ?_; rintro e w1 ⟨rfl, _, ho⟩; replace HO := hide ((HO.out.mono (S' := [w.heap.size]) (by simp)).trans ho |>.mono (S' := []) (by simp)); clear ho)
  go_ret
  exact retb rfl HO.out
theorem CanK_of (w : World) (k m n sb : Nat) (D : DataW Unit) (keys : Value) (s : ByteArray) (q : Nat) (b : Bool) (hk : KnowIs k m n sb D keys w) (hR : Reads0 k m n sb D keys s q b) (hs : s.size ≤ maxLen) (hkd : kindT s ≠ 0) :
    Calls Try.prog 22 #[.pointer (some ⟨k, 0, none⟩), .string s] w (RetB b w) := by
  have HM := hide (fun W (h : KnowIs k m n sb D keys W) => made_of W k m n sb D keys s q b h hR)
  have HKK := hide (Kind_any w s hs)
  unfold RetB at HM
  unfold KindPost at HKK
  have hk0 : (kindT s == 0) = false := by rw [beq_eq_false_iff_ne]; exact hkd
  have HK := hide hk
  clear hk hkd hR hs
  go_enter Try.func22, Try.ntmps22
  go_wp2_with (first
    | (go_at_call 39; refine HKK.out.mono ?_; rintro e w1 ⟨rfl, ho⟩; replace HK := hide (HK.out.only ho (by simp) (by simp)); have HO := hide ho; clear ho)
    | (go_at_call 43; refine (HM.out _ HK.out).mono ?_; rintro e w2 ⟨rfl, ho⟩; replace HO := hide (HO.out.trans ho); clear ho))
  go_ret
  exact retb rfl HO.out
set_option maxRecDepth 100000 in
set_option maxHeartbeats 6400000 in
theorem unseal_one (w : World) (k m n sb : Nat) (D : DataW Unit) (g1 c1 g2 c2 : Nat) (p0 p1 : ByteArray) (q : Nat) (hk : Blk w k 86 #[.map (some m), .map (some sb), .slice (some ⟨g1, 0, none⟩) 1 c1]) (hh : Had m n D w) (hsh : Shut sb 1 ((DataW.map []).put (.string p0.data.toList) (.agg [.lit (.int .i64 (g2 : Nat)), .lit (.int .i64 (0 : Nat)), .lit (.int .i64 (1 : Nat)), .lit (.int .i64 (c2 : Nat))])) w) (hrk : Rd w [k, m, sb] (.slice (some ⟨g1, 0, none⟩) 1 c1) (strs [p0])) (hri : Rd w [k, m, sb] (.slice (some ⟨g2, 0, none⟩) 1 c2) (strs [p1]))
    (hkm : k ≠ m) (hks : k ≠ sb) (hms : m ≠ sb) (hn : n ≤ 1000) (hR : Reads0 k m n sb D (.slice (some ⟨g1, 0, none⟩) 1 c1) p0 q true) (hp0 : p0.size ≤ maxLen) (hp1 : p1.size ≤ maxLen) (e10 : (kindT p1 == 10) = false) (e11 : (kindT p1 == 11) = false) (hhp : hadB D p1 = false) :
    Calls Try.prog 42 #[.pointer (some ⟨k, 0, none⟩)] w fun e w' => e = .returned (.bool true) ∧ Blk w' k 86 #[.map (some m), .map (some sb), .slice none 0 0] ∧ Had m (n + 1) (D.put (.string p1.data.toList) (.lit (.bool true))) w' ∧ Shut sb 1 (.map []) w' ∧ Only [k, m, sb] w w' := by
  obtain ⟨is, his, hs0, hs1, hs2⟩ := info_parts info_string
  have HLT := hide (show k < w.heap.size ∧ m < w.heap.size ∧ sb < w.heap.size from ⟨hk.lt, World.ownsMap.lt hh, World.ownsMap.lt hsh⟩)
  have HK := hide hk; have HH := hide hh; have HS := hide hsh; have HRK := hide hrk; have HRI := hide hri; have HW := hide (Only.refl [k, m, sb] w)
  have HM := hide (fun W (h : KnowIs k m n sb D (.slice (some ⟨g1, 0, none⟩) 1 c1) W) => made_of W k m n sb D _ p0 q true h hR)
  unfold RetB at HM
  have HV := hide (fun W (h1 : Blk W k 86 #[.map (some m), .map (some sb), .slice none 0 0]) (h2 : Had m n D W) (h3 : Shut sb 1 (.map []) W) (h4 : Rd W [] (.slice (some ⟨g2, 0, none⟩) 1 c2) (strs [p1])) => have_one W k m n sb 1 D (.map []) (.slice none 0 0) g2 0 c2 p1 h1 h2 h3 hkm hks hms hn h4 hp1 e10 e11 hhp)
  have HDL := hide (show (((DataW.map []).put (.string p0.data.toList) (.agg [.lit (.int .i64 (g2 : Nat)), .lit (.int .i64 (0 : Nat)), .lit (.int .i64 (1 : Nat)), .lit (.int .i64 (c2 : Nat))]))).del (.string p0.data.toList) = (DataW.map [] : DataW Unit) from by simp [DataW.put, DataW.del, DataW.insert, Lit.sameKey])
  have b0 := HK.out.cell 0; have b1 := HK.out.cell 1; have b2 := HK.out.cell 2; have f2 := HK.out.frozen 2; simp at b0 b1 b2
  obtain ⟨_, _, hAA, _, _, y0⟩ := HRK.out.at_.2.2.2 0 (.string p0) rfl; cases hAA; rw [Nat.add_zero] at y0
  clear hk hh hsh hrk hri hR hhp e10 e11
  go_enter Try.func42, Try.ntmps42
  go_wp2_with fail
  refine wp_loop_rounds 2 ?_
  rw [rounds_succ]
  go_upto_region 6 with (go_at_call 43; refine (HM.out _ ⟨HK.out, HH.out⟩).mono ?_; rintro e w1 ⟨rfl, ho⟩; replace HK := hide (HK.out.only ho (by simp)); replace HH := hide (HH.out.only ho (by simp)); replace HS := hide (HS.out.only ho (by simp)); replace HRK := hide (HRK.out.only ho (by simp)); replace HRI := hide (HRI.out.only ho (by simp)); replace HW := hide (HW.out.trans (ho.mono (by simp))); clear ho b0 b1 b2 f2 y0; have b0 := HK.out.cell 0; have b1 := HK.out.cell 1; have b2 := HK.out.cell 2; have f2 := HK.out.frozen 2; simp at b0 b1 b2; obtain ⟨_, _, hAA, _, _, y0⟩ := HRK.out.at_.2.2.2 0 (.string p0) rfl; cases hAA; rw [Nat.add_zero] at y0)
  have HOW := hide (show (w1.alloc (.cells #[.string p0] 9)).ownsRow w.heap.size 9 1 (.slice none 0 0) 0 [] from World.ownsRow_nil _ _ _ _)
  have HRN := hide (reads_one w1 9 (.string p0) (w1.heap.size + 1) (Nat.lt_succ_self _))
  have HSZ := hide HW.out.size
  go_wp2_with (at_builtin; refine wpList_append_any _ rfl (.tmp 22) (.tmp 24) 50 rfl w.heap.size 9 is (.string ByteArray.empty) 1 16 Try.underlying50 his hs0 hs1 hs2 rfl (by decide) (.slice none 0 0) 0 [] rfl HOW.out _ _ 1 1 [.string p0] rfl HRN.out (by simp [Value.oneCell']) (by unfold maxLen; omega) (by omega) (by have := HSZ.out; simp; omega) ?_; intro v1 w2 hown1 hg1 _; obtain ⟨go, co, rfl⟩ := Go.Joins.ownsRow_form hown1 (by omega); have ho2 : Only [] w1 w2 := ((Only.refl [] w1).alloc _).grown hg1 (fun j hj => by cases hj); have HOP := hide (show Rd w2 [k, m, sb] (.slice (some ⟨go, 0, none⟩) 1 co) (strs [p0]) from (Rd.of_own (N := [k, m, sb]) hown1 (by have := HLT.out; intro x hx; simp at hx; omega)).1); replace HK := hide (HK.out.only ho2 (by simp)); replace HH := hide (HH.out.only ho2 (by simp)); replace HS := hide (HS.out.only ho2 (by simp)); replace HRK := hide (HRK.out.only ho2 (by simp)); replace HRI := hide (HRI.out.only ho2 (by simp)); replace HW := hide (HW.out.trans (ho2.mono (by simp))); clear hown1 hg1 ho2 HOW HRN b0 b1 b2 f2 y0; have b0 := HK.out.cell 0; have b1 := HK.out.cell 1; have b2 := HK.out.cell 2; have f2 := HK.out.frozen 2; simp at b0 b1 b2; obtain ⟨_, _, hAA, _, _, y0⟩ := HRK.out.at_.2.2.2 0 (.string p0) rfl; cases hAA; rw [Nat.add_zero] at y0)
  rw [rounds_succ]
  go_upto_region 10 with fail
  have ho3 : Only [k] w2 (w2.setCell ⟨k, 2, none⟩ (.slice none 0 0)) := (Only.refl [k] w2).setCell (p := ⟨k, 2, none⟩) (.inl (by simp)) _
  replace HK := hide (show Blk (w2.setCell ⟨k, 2, none⟩ (.slice none 0 0)) k 86 #[.map (some m), .map (some sb), .slice none 0 0] from HK.out.set_ 2 _)
  replace HH := hide (HH.out.only ho3 (by simp; omega)); replace HS := hide (HS.out.only ho3 (by simp; omega)); replace HRI := hide (HRI.out.only ho3 (by simp)); replace HOP := hide (HOP.out.only ho3 (by simp)); replace HW := hide (HW.out.trans (ho3.mono (by simp)))
  clear ho3 b0 b1 b2 f2 y0 HRK
  generalize (w2.setCell ⟨k, 2, none⟩ (.slice none 0 0)) = w3 at *
  have b0 := HK.out.cell 0; have b1 := HK.out.cell 1; have b2 := HK.out.cell 2; simp at b0 b1 b2
  obtain ⟨_, _, hAA, _, _, y0⟩ := HOP.out.at_.2.2.2 0 (.string p0) rfl; cases hAA; rw [Nat.add_zero] at y0
  go_wp2_with fail
  refine wp_loop_rounds 2 ?_
  rw [rounds_succ]
  go_wp2_with (first
    | (at_lookup; refine wpList_lookup_had _ rfl _ _ 84 rfl _ _ _ rfl rfl (HS.out.at_one hp0) ?_)
    | (at_delete; refine wpList_delete_own _ rfl _ _ 84 9 rfl 50 (string_keyed Try.underlying9) Try.underlying84 _ sb 1 _ rfl HS.out _ _ rfl (keyOf_string_mk Try.underlying9 hp0) ?_; intro w4 hown1 htr; have ho4 : Only [sb] w3 w4 := (Only.refl [sb] w3).grown htr.grown (fun j hj => .inl (by cases hj; simp)); rw [HDL.out] at hown1; replace HS := hide (show Shut sb 1 (.map []) w4 from hown1); replace HK := hide (HK.out.only ho4 (by simp; omega)); replace HH := hide (HH.out.only ho4 (by simp; omega)); replace HRI := hide (HRI.out.only ho4 (by simp)); replace HOP := hide (HOP.out.only ho4 (by simp)); replace HW := hide (HW.out.trans (ho4.mono (by simp))); clear hown1 htr ho4 b0 b1 b2 y0; have b0 := HK.out.cell 0; have b1 := HK.out.cell 1; have b2 := HK.out.cell 2; simp at b0 b1 b2; obtain ⟨_, _, hAA, _, _, y0⟩ := HOP.out.at_.2.2.2 0 (.string p0) rfl; cases hAA; rw [Nat.add_zero] at y0)
    | (go_at_call 41; refine (HV.out _ HK.out HH.out HS.out (rd_less HRI.out)).mono ?_; rintro e w5 ⟨rfl, hk5, hh5, hs5, ho5⟩; replace HK := hide hk5; replace HH := hide hh5; replace HS := hide hs5; replace HOP := hide (HOP.out.only ho5 (by simp)); replace HW := hide (HW.out.trans (ho5.mono (by simp))); clear hk5 hh5 hs5 ho5 b0 b1 b2 y0; have b0 := HK.out.cell 0; have b1 := HK.out.cell 1; have b2 := HK.out.cell 2; simp at b0 b1 b2; obtain ⟨_, _, hAA, _, _, y0⟩ := HOP.out.at_.2.2.2 0 (.string p0) rfl; cases hAA; rw [Nat.add_zero] at y0))
  rw [rounds_succ]
  go_wp2_with fail
  go_ret
  exact ⟨rfl, HK.out, HH.out, HS.out, HW.out⟩
end
end Go.Proofs.Ytfmfnfmhknlpbaa

/-
  Walks and plain words (texts Dl6, Dl7, Dlo). No condition beyond those that each theorem states.
-/
import Derived.Test.YteoifokmbkpbnaaDoorChecked
import Derived.Test.YteoifokmbkpbnaaDoorQ23
import Derived.Test.YteoifokmbkpbnaaDoorQ27
import Derived.Test.YteoifokmbkpbnaaDoorQ28
namespace Go.Proofs.YteoifokmbkpbnaaDoor
section
open Go.RowKit Go.Deep

set_option maxRecDepth 100000 in
set_option maxHeartbeats 6400000 in
theorem With_a24 (w0 : World) (g s : Nat) (a b c d e : ByteArray) (hb : Blk w0 g 9 #[.string a, .string b, .string c, .string d, .string e]) :
    Calls Tryd.prog 41 #[.int .i64 1, .int .u32 (s : Nat), .int .u32 0, .int .u64 0, .slice (some ⟨g, 0, none⟩) 5 5] w0 fun x w' => x = .returned (.agg #[.int .i64 1, .int .u32 (s : Nat), .int .u32 0, .int .u64 0, .string a, .string b, .string c, .string ⟨#[]⟩, .string ⟨#[]⟩, .string ⟨#[]⟩, .string ⟨#[]⟩, .string d, .string e]) ∧ Only [] w0 w' := by
  have HGL := hide (show g < w0.heap.size from hb.lt)
  have HB := hide (hb.alloc (.cells #[.int .i64 0, .int .u32 0, .int .u32 0, .int .u64 0, .string ⟨#[]⟩, .string ⟨#[]⟩, .string ⟨#[]⟩, .string ⟨#[]⟩, .string ⟨#[]⟩, .string ⟨#[]⟩, .string ⟨#[]⟩, .string ⟨#[]⟩, .string ⟨#[]⟩] 78))
  have HMD := hide (Blk.new w0 78 #[.int .i64 0, .int .u32 0, .int .u32 0, .int .u64 0, .string ⟨#[]⟩, .string ⟨#[]⟩, .string ⟨#[]⟩, .string ⟨#[]⟩, .string ⟨#[]⟩, .string ⟨#[]⟩, .string ⟨#[]⟩, .string ⟨#[]⟩, .string ⟨#[]⟩])
  have HO := hide ((Only.refl [] w0).alloc (.cells #[.int .i64 0, .int .u32 0, .int .u32 0, .int .u64 0, .string ⟨#[]⟩, .string ⟨#[]⟩, .string ⟨#[]⟩, .string ⟨#[]⟩, .string ⟨#[]⟩, .string ⟨#[]⟩, .string ⟨#[]⟩, .string ⟨#[]⟩, .string ⟨#[]⟩] 78))
  clear hb
  go_enter Tryd.func41, Tryd.ntmps41
  go_upto_region 3 with fail
  generalize (w0.alloc (.cells #[.int .i64 0, .int .u32 0, .int .u32 0, .int .u64 0, .string ⟨#[]⟩, .string ⟨#[]⟩, .string ⟨#[]⟩, .string ⟨#[]⟩, .string ⟨#[]⟩, .string ⟨#[]⟩, .string ⟨#[]⟩, .string ⟨#[]⟩, .string ⟨#[]⟩] 78)) = v0 at *
  have HMD0 := HMD
  replace HMD := hide (show Blk v0.drew w0.heap.size 78 #[.int .i64 0, .int .u32 0, .int .u32 0, .int .u64 0, .string ⟨#[]⟩, .string ⟨#[]⟩, .string ⟨#[]⟩, .string ⟨#[]⟩, .string ⟨#[]⟩, .string ⟨#[]⟩, .string ⟨#[]⟩, .string ⟨#[]⟩, .string ⟨#[]⟩] from HMD0.out)
  refine wp_region_held_drew (S := fun W => Only [w0.heap.size] v0 W) (by kernel_rfl) (by exact (Only.refl [w0.heap.size] v0).drew) (fun hHeld => ?_)
  generalize v0.drew = wd3 at *
  refine wpAnyH_take (i := 0) (v := ?_) rfl (by kernel_rfl) (by kernel_rfl) (by kernel_rfl) (fun _ _ _ h => h) (Or.inl ⟨by rfl, ?_⟩) (by assumption) ?_
  rotate_left
  · (intro w hSw; (try dsimp only at hSw); go_simp; try with_reducible rfl)
  try simp only [List.getElem_toArray, List.getElem_cons_succ, List.getElem_cons_zero, Act.put, List.setIfInBounds_toArray, List.set_cons_zero, List.set_cons_succ]
  refine wpAnyH_take (i := 1) (v := ?_) rfl (by kernel_rfl) (by kernel_rfl) (by kernel_rfl) (fun _ _ _ h => h) (Or.inl ⟨by rfl, ?_⟩) (by assumption) ?_
  rotate_left
  · (intro w hSw; (try dsimp only at hSw); go_simp; try with_reducible rfl)
  try simp only [List.getElem_toArray, List.getElem_cons_succ, List.getElem_cons_zero, Act.put, List.setIfInBounds_toArray, List.set_cons_zero, List.set_cons_succ]
  refine wpAnyH_take (i := 2) (v := ?_) rfl (by kernel_rfl) (by kernel_rfl) (by kernel_rfl) (fun _ _ _ h => h) (Or.inl ⟨by rfl, ?_⟩) (by assumption) ?_
  rotate_left
  · (intro w hSw; (try dsimp only at hSw); go_simp; try with_reducible rfl)
  try simp only [List.getElem_toArray, List.getElem_cons_succ, List.getElem_cons_zero, Act.put, List.setIfInBounds_toArray, List.set_cons_zero, List.set_cons_succ]
  refine wpAnyH_take (i := 3) (v := ?_) rfl (by kernel_rfl) (by kernel_rfl) (by kernel_rfl) (fun _ _ _ h => h) (Or.inl ⟨by rfl, ?_⟩) (by assumption) ?_
  rotate_left
  · (intro w hSw; (try dsimp only at hSw); have ci := (cell_only hSw (show (⟨g, 0, none⟩ : Addr).block < v0.heap.size from HB.out.lt) (by simp; have := HGL.out; omega)).trans (HB.out.cell 0); simp at ci; go_simp; try with_reducible rfl)
  try simp only [List.getElem_toArray, List.getElem_cons_succ, List.getElem_cons_zero, Act.put, List.setIfInBounds_toArray, List.set_cons_zero, List.set_cons_succ]
  refine wpAnyH_take (i := 4) (v := ?_) rfl (by kernel_rfl) (by kernel_rfl) (by kernel_rfl) (fun _ _ _ h => h) (Or.inl ⟨by rfl, ?_⟩) (by assumption) ?_
  rotate_left
  · (intro w hSw; (try dsimp only at hSw); go_simp; try with_reducible rfl)
  try simp only [List.getElem_toArray, List.getElem_cons_succ, List.getElem_cons_zero, Act.put, List.setIfInBounds_toArray, List.set_cons_zero, List.set_cons_succ]
  refine wpAnyH_take (i := 5) (v := ?_) rfl (by kernel_rfl) (by kernel_rfl) (by kernel_rfl) (fun _ _ _ h => h) (Or.inl ⟨by rfl, ?_⟩) (by assumption) ?_
  rotate_left
  · (intro w hSw; (try dsimp only at hSw); go_simp; try with_reducible rfl)
  try simp only [List.getElem_toArray, List.getElem_cons_succ, List.getElem_cons_zero, Act.put, List.setIfInBounds_toArray, List.set_cons_zero, List.set_cons_succ]
  refine wpAnyH_take (i := 6) (v := ?_) rfl (by kernel_rfl) (by kernel_rfl) (by kernel_rfl) (fun _ _ _ h => h) (Or.inl ⟨by rfl, ?_⟩) (by assumption) ?_
  rotate_left
  · (intro w hSw; (try dsimp only at hSw); have ci := (cell_only hSw (show (⟨g, 1, none⟩ : Addr).block < v0.heap.size from HB.out.lt) (by simp; have := HGL.out; omega)).trans (HB.out.cell 1); simp at ci; go_simp; try with_reducible rfl)
  try simp only [List.getElem_toArray, List.getElem_cons_succ, List.getElem_cons_zero, Act.put, List.setIfInBounds_toArray, List.set_cons_zero, List.set_cons_succ]
  refine wpAnyH_take (i := 7) (v := ?_) rfl (by kernel_rfl) (by kernel_rfl) (by kernel_rfl) (fun _ _ _ h => h) (Or.inl ⟨by rfl, ?_⟩) (by assumption) ?_
  rotate_left
  · (intro w hSw; (try dsimp only at hSw); go_simp; try with_reducible rfl)
  try simp only [List.getElem_toArray, List.getElem_cons_succ, List.getElem_cons_zero, Act.put, List.setIfInBounds_toArray, List.set_cons_zero, List.set_cons_succ]
  refine wpAnyH_take (i := 8) (v := ?_) rfl (by kernel_rfl) (by kernel_rfl) (by kernel_rfl) (fun _ _ _ h => h) (Or.inl ⟨by rfl, ?_⟩) (by assumption) ?_
  rotate_left
  · (intro w hSw; (try dsimp only at hSw); go_simp; try with_reducible rfl)
  try simp only [List.getElem_toArray, List.getElem_cons_succ, List.getElem_cons_zero, Act.put, List.setIfInBounds_toArray, List.set_cons_zero, List.set_cons_succ]
  refine wpAnyH_take (i := 9) (v := ?_) rfl (by kernel_rfl) (by kernel_rfl) (by kernel_rfl) (fun _ _ _ h => h) (Or.inl ⟨by rfl, ?_⟩) (by assumption) ?_
  rotate_left
  · (intro w hSw; (try dsimp only at hSw); have ci := (cell_only hSw (show (⟨g, 2, none⟩ : Addr).block < v0.heap.size from HB.out.lt) (by simp; have := HGL.out; omega)).trans (HB.out.cell 2); simp at ci; go_simp; try with_reducible rfl)
  try simp only [List.getElem_toArray, List.getElem_cons_succ, List.getElem_cons_zero, Act.put, List.setIfInBounds_toArray, List.set_cons_zero, List.set_cons_succ]
  refine wpAnyH_take (i := 10) (v := ?_) rfl (by kernel_rfl) (by kernel_rfl) (by kernel_rfl) (fun _ _ _ h => h) (Or.inl ⟨by rfl, ?_⟩) (by assumption) ?_
  rotate_left
  · (intro w hSw; (try dsimp only at hSw); go_simp; try with_reducible rfl)
  try simp only [List.getElem_toArray, List.getElem_cons_succ, List.getElem_cons_zero, Act.put, List.setIfInBounds_toArray, List.set_cons_zero, List.set_cons_succ]
  refine wpAnyH_take (i := 11) (v := ?_) rfl (by kernel_rfl) (by kernel_rfl) (by kernel_rfl) (fun _ _ _ h => h) (Or.inl ⟨by rfl, ?_⟩) (by assumption) ?_
  rotate_left
  · (intro w hSw; (try dsimp only at hSw); go_simp; try with_reducible rfl)
  try simp only [List.getElem_toArray, List.getElem_cons_succ, List.getElem_cons_zero, Act.put, List.setIfInBounds_toArray, List.set_cons_zero, List.set_cons_succ]
  refine wpAnyH_take (i := 12) (v := ?_) rfl (by kernel_rfl) (by kernel_rfl) (by kernel_rfl) (fun _ _ _ h => h) (Or.inl ⟨by rfl, ?_⟩) (by assumption) ?_
  rotate_left
  · (intro w hSw; (try dsimp only at hSw); have ci := (cell_only hSw (show (⟨g, 3, none⟩ : Addr).block < v0.heap.size from HB.out.lt) (by simp; have := HGL.out; omega)).trans (HB.out.cell 3); simp at ci; go_simp; try with_reducible rfl)
  try simp only [List.getElem_toArray, List.getElem_cons_succ, List.getElem_cons_zero, Act.put, List.setIfInBounds_toArray, List.set_cons_zero, List.set_cons_succ]
  refine wpAnyH_take (i := 13) (v := ?_) rfl (by kernel_rfl) (by kernel_rfl) (by kernel_rfl) (fun _ _ _ h => h) (Or.inl ⟨by rfl, ?_⟩) (by assumption) ?_
  rotate_left
  · (intro w hSw; (try dsimp only at hSw); go_simp; try with_reducible rfl)
  try simp only [List.getElem_toArray, List.getElem_cons_succ, List.getElem_cons_zero, Act.put, List.setIfInBounds_toArray, List.set_cons_zero, List.set_cons_succ]
  refine wpAnyH_take (i := 14) (v := ?_) rfl (by kernel_rfl) (by kernel_rfl) (by kernel_rfl) (fun _ _ _ h => h) (Or.inl ⟨by rfl, ?_⟩) (by assumption) ?_
  rotate_left
  · (intro w hSw; (try dsimp only at hSw); go_simp; try with_reducible rfl)
  try simp only [List.getElem_toArray, List.getElem_cons_succ, List.getElem_cons_zero, Act.put, List.setIfInBounds_toArray, List.set_cons_zero, List.set_cons_succ]
  refine wpAnyH_take (i := 15) (v := ?_) rfl (by kernel_rfl) (by kernel_rfl) (by kernel_rfl) (fun _ _ _ h => h) (Or.inl ⟨by rfl, ?_⟩) (by assumption) ?_
  rotate_left
  · (intro w hSw; (try dsimp only at hSw); have ci := (cell_only hSw (show (⟨g, 4, none⟩ : Addr).block < v0.heap.size from HB.out.lt) (by simp; have := HGL.out; omega)).trans (HB.out.cell 4); simp at ci; go_simp; try with_reducible rfl)
  try simp only [List.getElem_toArray, List.getElem_cons_succ, List.getElem_cons_zero, Act.put, List.setIfInBounds_toArray, List.set_cons_zero, List.set_cons_succ]
  refine wpAnyH_take (i := 16) (v := ?_) rfl (by kernel_rfl) (by kernel_rfl) (by kernel_rfl) (fun _ _ _ h => h) (Or.inl ⟨by rfl, ?_⟩) (by assumption) ?_
  rotate_left
  · (intro w hSw; (try dsimp only at hSw); go_simp; try with_reducible rfl)
  try simp only [List.getElem_toArray, List.getElem_cons_succ, List.getElem_cons_zero, Act.put, List.setIfInBounds_toArray, List.set_cons_zero, List.set_cons_succ]
  refine wpAnyH_ready (rs := [17]) (by kernel_rfl) (by simp) ?_
  refine (AllReadyH.cons rfl (fun K hK => ?_) AllReadyH.nil)
  rw [if_pos (by rfl)]
  refine wp_store_mid _ _ _ rfl _ _ #[.int .i64 1, .int .u32 (s : Nat), .int .u32 0, .int .u64 0, .string a, .string b, .string c, .string ⟨#[]⟩, .string ⟨#[]⟩, .string ⟨#[]⟩, .string ⟨#[]⟩, .string d, .string e] rfl rfl (blk_there HMD.out _ rfl) (by kernel_rfl) (by simp [Value.oneCell']) ?_
  have HS3 := hide (show Blk (wd3.setCells w0.heap.size 0 [.int .i64 1, .int .u32 (s : Nat), .int .u32 0, .int .u64 0, .string a, .string b, .string c, .string ⟨#[]⟩, .string ⟨#[]⟩, .string ⟨#[]⟩, .string ⟨#[]⟩, .string d, .string e]) _ 78 #[.int .i64 1, .int .u32 (s : Nat), .int .u32 0, .int .u64 0, .string a, .string b, .string c, .string ⟨#[]⟩, .string ⟨#[]⟩, .string ⟨#[]⟩, .string ⟨#[]⟩, .string d, .string e] from blk_stored HMD.out [.int .i64 1, .int .u32 (s : Nat), .int .u32 0, .int .u64 0, .string a, .string b, .string c, .string ⟨#[]⟩, .string ⟨#[]⟩, .string ⟨#[]⟩, .string ⟨#[]⟩, .string d, .string e] rfl)
  refine hK.out _ _ (by exact Only.setCells (.inl (by simp)) 0 [.int .i64 1, .int .u32 (s : Nat), .int .u32 0, .int .u64 0, .string a, .string b, .string c, .string ⟨#[]⟩, .string ⟨#[]⟩, .string ⟨#[]⟩, .string ⟨#[]⟩, .string d, .string e] hHeld) (fun hN => ?_)
  clear hK K hHeld
  have hHeld := hN
  clear hN
  try simp only [List.getElem_toArray, List.getElem_cons_succ, List.getElem_cons_zero, Act.put, List.setIfInBounds_toArray, List.set_cons_zero, List.set_cons_succ]
  refine wpAnyH_done (by kernel_rfl) ?_ _
  replace HO := hide (((HO.out.mono (S' := [w0.heap.size]) (by simp)).trans hHeld).mono (S' := []) (fun x hx => .inr (by simp at hx; omega)))
  (repeat go_step)
  refine bodyPost_ret (results_cell_row rfl _ _ w0.heap.size 78 _ (0, 0) _ rfl HS3.out Tryd.underlying78 rfl (by kernel_rfl)) rfl ?_
  exact ⟨rfl, HO.out⟩
def mgA : Mg := ⟨1, 1000, 0, 0, ⟨#[112, 40, 97, 49, 41]⟩, ⟨#[48]⟩, ⟨#[48]⟩, noT, noT, noT, noT, ⟨#[48]⟩, ⟨#[48]⟩⟩
theorem mgA_fine : mgA.Fine := fine_of (by decide) (by decide) (by decide) (by decide) (by decide) (by decide) (by decide) (by decide) (by decide) (by decide) (by decide) (by decide)
theorem mgA_right : rightM mgA = true := by kernel_rfl
theorem mgA_len : (printM mgA).length = 27 := by kernel_rfl
theorem dec0_24 : decS 0 = ⟨#[48]⟩ := by unfold decS; rw [show Lib.decDigits 0 = [48] from by rw [Lib.decDigits, dif_pos (by decide)]; decide]
theorem dec1_24 : decS 1 = ⟨#[49]⟩ := by unfold decS; rw [show Lib.decDigits 1 = [49] from by rw [Lib.decDigits, dif_pos (by decide)]; decide]
theorem dec2_24 : decS 2 = ⟨#[50]⟩ := by unfold decS; rw [show Lib.decDigits 2 = [50] from by rw [Lib.decDigits, dif_pos (by decide)]; decide]
theorem dec1000_24 : decS 1000 = ⟨#[49, 48, 48, 48]⟩ := by
  unfold decS
  rw [show Lib.decDigits 1000 = [49, 48, 48, 48] from by rw [dec_split 1000 (by decide), dec_split (1000 / 10) (by decide), dec_split (1000 / 10 / 10) (by decide), Lib.decDigits, dif_pos (by decide)]; decide]
theorem lineA : joinW (wordsW 0 1 2 0 0 mgA 27) = ⟨#[48, 32, 49, 32, 50, 32, 48, 32, 105, 110, 105, 116, 32, 49, 48, 48, 48]⟩ := by
  rw [words_cat, show tailW 0 mgA 27 = [⟨#[105, 110, 105, 116]⟩, decS 1000] from rfl, dec1000_24]
  unfold wordS
  rw [dec0_24, dec1_24, dec2_24]
  decide +kernel
set_option maxRecDepth 100000 in
set_option maxHeartbeats 6400000 in
theorem awake24 (w : World) (htab : Tab w) : Calls Tryd.prog 19 #[] w fun e w' => e = .returned (.bool true) ∧ Only [] w w' := by
  have HP := hide (fun W => PrintR_1 W 1000 0 0 ⟨#[112, 40, 97, 49, 41]⟩ ⟨#[48]⟩ ⟨#[48]⟩ noT noT noT noT ⟨#[48]⟩ ⟨#[48]⟩ mgA_fine mgA_right)
  have HL := hide (fun W A cap (hr : Rd W [] (.slice A (printM mgA).length cap) (ints .u8 (byts (printM mgA)))) (ht : Tab W) => Line_ok W 0 1 2 0 A cap (printM mgA) mgA (by rw [mgA_len]; decide) (by rw [read_print mgA mgA_fine mgA_right]) (fun h => absurd (by rw [read_print mgA mgA_fine mgA_right]) h) mgA_fine hr (by decide) (by decide) (by decide) (by decide) ht)
  unfold LPost at HL
  rw [read_print mgA mgA_fine mgA_right] at HL
  simp only [mgA_len, lineA, show ((0 : Nat) : Int) = 0 from rfl, show ((1 : Nat) : Int) = 1 from rfl, show ((2 : Nat) : Int) = 2 from rfl, noT, show ((1000 : Nat) : Int) = 1000 from rfl] at HL HP
  have HW := hide (fun W g (h : Blk W g 9 #[.string ⟨#[112, 40, 97, 49, 41]⟩, .string ⟨#[48]⟩, .string ⟨#[48]⟩, .string ⟨#[48]⟩, .string ⟨#[48]⟩]) => With_a24 W g 1000 _ _ _ _ _ h)
  simp only [show ((1000 : Nat) : Int) = 1000 from rfl] at HW
  have HT := hide htab
  have HC := hide (Blk.new w 9 #[.string ⟨#[112, 40, 97, 49, 41]⟩, .string ⟨#[48]⟩, .string ⟨#[48]⟩, .string ⟨#[48]⟩, .string ⟨#[48]⟩])
  have HO := hide ((Only.refl [] w).alloc (.cells #[.string ⟨#[112, 40, 97, 49, 41]⟩, .string ⟨#[48]⟩, .string ⟨#[48]⟩, .string ⟨#[48]⟩, .string ⟨#[48]⟩] 9))
  clear htab
  go_enter Tryd.func19, Tryd.ntmps19
  go_wp2_with (first
    | (go_at_call 41; refine (HW.out _ _ HC.out).mono ?_; rintro e1 w1 ⟨rfl, ho⟩; replace HO := hide (HO.out.trans ho); clear ho)
    | (go_at_call 40; refine (HP.out _).mono ?_; rintro e2 w2 ⟨v, rfl, hr, ho⟩; have HR := hide hr; obtain ⟨A, cap, rfl, _, _⟩ := hr.formb; simp only [show (printM ⟨1, 1000, 0, 0, ⟨#[112, 40, 97, 49, 41]⟩, ⟨#[48]⟩, ⟨#[48]⟩, ⟨#[]⟩, ⟨#[]⟩, ⟨#[]⟩, ⟨#[]⟩, ⟨#[48]⟩, ⟨#[48]⟩⟩).length = 27 from mgA_len] at HR ⊢; replace HO := hide (HO.out.trans ho); clear ho hr)
    | (go_at_call 20; refine (HL.out _ _ _ HR.out (HT.out.only HO.out (by simp))).mono ?_; rintro e3 w3 ⟨rfl, ho⟩; replace HO := hide (HO.out.trans ho); clear ho))
  go_ret
  exact ⟨rfl, HO.out⟩
end
section
open Go.RowKit Go.Deep

theorem zero_24 {l : List UInt8} (h : (readV l).1 ≠ 0) : (readV l).2 = zgD.cells := by
  by_cases h0 : (headV l).1 = 0
  · have hh : headV l = (0, (headV l).2.1, (headV l).2.2) := by rw [← h0]
    rw [read_fin hh] at h ⊢
    exact (fin_err _ _ _ h).trans rfl
  · rw [read_head h0]
    rfl
set_option maxRecDepth 100000 in
set_option maxHeartbeats 6400000 in
theorem dl_long (w : World) (bv : Value) (i f t d : Int) (l : List UInt8) (hr : Rd w [] bv (ints .u8 (byts l))) (hl : 1500 < l.length) (htab : Tab w) :
    Calls Tryd.prog 5 #[.int .i64 i, .agg #[.int .i64 f, .int .i64 t, bv, .int .i64 d]] w fun e w' => e = .returned (.bool true) ∧ Only [] w w' := by
  obtain ⟨A, cap, rfl, _, _⟩ := hr.formb
  have HT := hide htab
  have HA := hide (fun W (h : Tab W) => awake24 W h)
  have HR := hide hr
  have HB := hide (Blk.new w 46 #[.int .i64 f, .int .i64 t, .slice A l.length cap, .int .i64 d])
  have HO := hide ((Only.refl [] w).alloc (.cells #[.int .i64 f, .int .i64 t, .slice A l.length cap, .int .i64 d] 46))
  have hlI : (1500 : Int) < l.length := by omega
  clear hl
  clear hr htab
  go_enter Tryd.func5, Tryd.ntmps5
  go_wp2_with (go_at_call 19; refine (HA.out _ (HT.out.only HO.out (by simp))).mono ?_; rintro e1 w1 ⟨rfl, ho⟩; replace HO := hide (HO.out.trans ho); replace HB := hide (HB.out.only ho (by simp)); have c0 := HB.out.cell 0; have c1 := HB.out.cell 1; have c2 := HB.out.cell 2; have c3 := HB.out.cell 3; simp at c0 c1 c2 c3; clear ho)
  go_ret
  exact ⟨rfl, HO.out⟩
set_option maxRecDepth 100000 in
set_option maxHeartbeats 6400000 in
theorem dl_neg (w : World) (bv : Value) (i f t d : Int) (l : List UInt8) (hr : Rd w [] bv (ints .u8 (byts l))) (hl : l.length ≤ 1500) (h : i < 0 ∨ f < 0 ∨ t < 0 ∨ d < 0) (htab : Tab w) :
    Calls Tryd.prog 5 #[.int .i64 i, .agg #[.int .i64 f, .int .i64 t, bv, .int .i64 d]] w fun e w' => e = .returned (.bool true) ∧ Only [] w w' := by
  obtain ⟨A, cap, rfl, _, _⟩ := hr.formb
  have HT := hide htab
  have HA := hide (fun W (h : Tab W) => awake24 W h)
  have HR := hide hr
  have HB := hide (Blk.new w 46 #[.int .i64 f, .int .i64 t, .slice A l.length cap, .int .i64 d])
  have HO := hide ((Only.refl [] w).alloc (.cells #[.int .i64 f, .int .i64 t, .slice A l.length cap, .int .i64 d] 46))
  have hlI : ¬ (1500 : Int) < l.length := by omega
  have HL := hide (fun W => Line_neg W i f t d (.slice A l.length cap) h)
  clear hl
  clear hr htab
  go_enter Tryd.func5, Tryd.ntmps5
  by_cases h1 : i < 0
  · go_wp2_with (first
      | (go_at_call 19; refine (HA.out _ (HT.out.only HO.out (by simp))).mono ?_; rintro e1 w1 ⟨rfl, ho⟩; replace HO := hide (HO.out.trans ho); replace HB := hide (HB.out.only ho (by simp)); have c0 := HB.out.cell 0; have c1 := HB.out.cell 1; have c2 := HB.out.cell 2; have c3 := HB.out.cell 3; simp at c0 c1 c2 c3; clear ho)
      | (go_at_call 20; refine (HL.out _).mono ?_; rintro e2 w2 ⟨rfl, ho⟩; replace HO := hide (HO.out.trans ho); replace HB := hide (HB.out.only ho (by simp)); clear c0 c1 c2 c3; have c0 := HB.out.cell 0; have c1 := HB.out.cell 1; have c2 := HB.out.cell 2; have c3 := HB.out.cell 3; simp at c0 c1 c2 c3; clear ho))
    go_ret
    exact ⟨rfl, HO.out⟩
  · by_cases h2 : f < 0
    · go_wp2_with (first
        | (go_at_call 19; refine (HA.out _ (HT.out.only HO.out (by simp))).mono ?_; rintro e1 w1 ⟨rfl, ho⟩; replace HO := hide (HO.out.trans ho); replace HB := hide (HB.out.only ho (by simp)); have c0 := HB.out.cell 0; have c1 := HB.out.cell 1; have c2 := HB.out.cell 2; have c3 := HB.out.cell 3; simp at c0 c1 c2 c3; clear ho)
        | (go_at_call 20; refine (HL.out _).mono ?_; rintro e2 w2 ⟨rfl, ho⟩; replace HO := hide (HO.out.trans ho); replace HB := hide (HB.out.only ho (by simp)); clear c0 c1 c2 c3; have c0 := HB.out.cell 0; have c1 := HB.out.cell 1; have c2 := HB.out.cell 2; have c3 := HB.out.cell 3; simp at c0 c1 c2 c3; clear ho))
      go_ret
      exact ⟨rfl, HO.out⟩
    · by_cases h3 : t < 0
      · go_wp2_with (first
          | (go_at_call 19; refine (HA.out _ (HT.out.only HO.out (by simp))).mono ?_; rintro e1 w1 ⟨rfl, ho⟩; replace HO := hide (HO.out.trans ho); replace HB := hide (HB.out.only ho (by simp)); have c0 := HB.out.cell 0; have c1 := HB.out.cell 1; have c2 := HB.out.cell 2; have c3 := HB.out.cell 3; simp at c0 c1 c2 c3; clear ho)
          | (go_at_call 20; refine (HL.out _).mono ?_; rintro e2 w2 ⟨rfl, ho⟩; replace HO := hide (HO.out.trans ho); replace HB := hide (HB.out.only ho (by simp)); clear c0 c1 c2 c3; have c0 := HB.out.cell 0; have c1 := HB.out.cell 1; have c2 := HB.out.cell 2; have c3 := HB.out.cell 3; simp at c0 c1 c2 c3; clear ho))
        go_ret
        exact ⟨rfl, HO.out⟩
      · have h4 : d < 0 := by omega
        go_wp2_with (first
          | (go_at_call 19; refine (HA.out _ (HT.out.only HO.out (by simp))).mono ?_; rintro e1 w1 ⟨rfl, ho⟩; replace HO := hide (HO.out.trans ho); replace HB := hide (HB.out.only ho (by simp)); have c0 := HB.out.cell 0; have c1 := HB.out.cell 1; have c2 := HB.out.cell 2; have c3 := HB.out.cell 3; simp at c0 c1 c2 c3; clear ho)
          | (go_at_call 20; refine (HL.out _).mono ?_; rintro e2 w2 ⟨rfl, ho⟩; replace HO := hide (HO.out.trans ho); replace HB := hide (HB.out.only ho (by simp)); clear c0 c1 c2 c3; have c0 := HB.out.cell 0; have c1 := HB.out.cell 1; have c2 := HB.out.cell 2; have c3 := HB.out.cell 3; simp at c0 c1 c2 c3; clear ho))
        go_ret
        exact ⟨rfl, HO.out⟩
set_option maxRecDepth 100000 in
set_option maxHeartbeats 6400000 in
theorem dl_ok (w : World) (bv : Value) (i f t d : Nat) (l : List UInt8) (hr : Rd w [] bv (ints .u8 (byts l))) (hl : l.length ≤ 1500) (hi : i < 9223372036854775808) (hf : f < 9223372036854775808) (ht : t < 9223372036854775808) (hd : d < 9223372036854775808) (htab : Tab w) :
    Calls Tryd.prog 5 #[.int .i64 (i : Nat), .agg #[.int .i64 (f : Nat), .int .i64 (t : Nat), bv, .int .i64 (d : Nat)]] w fun e w' => e = .returned (.bool true) ∧ Only [] w w' := by
  obtain ⟨m, hm, hF⟩ := read_cells l
  have hz : (readV l).1 ≠ 0 → m = zgD := fun h => cells_inj (show m.cells = zgD.cells by rw [← hm]; exact zero_24 h)
  obtain ⟨A, cap, rfl, _, _⟩ := hr.formb
  have HT := hide htab
  have HA := hide (fun W (h : Tab W) => awake24 W h)
  have HR := hide hr
  have HB := hide (Blk.new w 46 #[.int .i64 (f : Nat), .int .i64 (t : Nat), .slice A l.length cap, .int .i64 (d : Nat)])
  have HO := hide ((Only.refl [] w).alloc (.cells #[.int .i64 (f : Nat), .int .i64 (t : Nat), .slice A l.length cap, .int .i64 (d : Nat)] 46))
  have hlI : ¬ (1500 : Int) < l.length := by omega
  have HL := hide (fun W (h : Rd W [] (.slice A l.length cap) (ints .u8 (byts l))) (ht2 : Tab W) => Line_ok W i f t d A cap l m (by omega) hm hz hF h hi hf ht hd ht2)
  have HLR := hide (fun W (h : Rd W [] (.slice A l.length cap) (ints .u8 (byts l))) => LineR_ok W i f t d A cap l m (by omega) hm hF h hi hf ht hd)
  unfold LPost at HL
  unfold SWPost at HLR
  generalize joinW (wordsW i f t d (readV l).1 m l.length) = X at *
  have h1 : ¬ (i : Int) < 0 := by omega
  have h2 : ¬ (f : Int) < 0 := by omega
  have h3 : ¬ (t : Int) < 0 := by omega
  have h4 : ¬ (d : Int) < 0 := by omega
  clear hl hm hz hF hi hf ht hd
  clear hr htab
  go_enter Tryd.func5, Tryd.ntmps5
  go_wp2_with (first
    | (go_at_call 19; refine (HA.out _ (HT.out.only HO.out (by simp))).mono ?_; rintro e1 w1 ⟨rfl, ho⟩; replace HO := hide (HO.out.trans ho); replace HB := hide (HB.out.only ho (by simp)); have c0 := HB.out.cell 0; have c1 := HB.out.cell 1; have c2 := HB.out.cell 2; have c3 := HB.out.cell 3; simp at c0 c1 c2 c3; clear ho)
    | (go_at_call 20; refine (HL.out _ (HR.out.only HO.out (by simp)) (HT.out.only HO.out (by simp))).mono ?_; rintro e2 w2 ⟨rfl, ho⟩; replace HO := hide (HO.out.trans ho); replace HB := hide (HB.out.only ho (by simp)); clear c0 c1 c2 c3; have c0 := HB.out.cell 0; have c1 := HB.out.cell 1; have c2 := HB.out.cell 2; have c3 := HB.out.cell 3; simp at c0 c1 c2 c3; clear ho)
    | (go_at_call 21; refine (HLR.out _ (HR.out.only HO.out (by simp))).mono ?_; rintro e3 w3 ⟨rfl, ho⟩; replace HO := hide (HO.out.trans ho); clear ho))
  go_ret
  exact ⟨rfl, HO.out⟩
end
section
open Go.RowKit Go.Deep Go.ChangeShapes Go.WideShapes Go.ChangeAt

theorem list_four {α : Type} {l : List α} (h : l.length = 4) : ∃ a b c d, l = [a, b, c, d] := by
  match l, h with
  | [a, b, c, d], _ => exact ⟨a, b, c, d, rfl⟩
theorem u8_inD {n : Int} (h : (Lit.int .u8 n).wf = true) : 0 ≤ n ∧ n ≤ 255 := by
  simp only [Lit.wf, Bool.and_eq_true, decide_eq_true_eq] at h
  have e1 : IntKind.u8.min = 0 := rfl
  have e2 : IntKind.u8.max = 255 := rfl
  omega
section
variable {H : Type} {enc : TypeId × Value → H} {w : World} {base : Nat} {spare : Nat → Bool} {held : Bool}
set_option maxRecDepth 100000 in
theorem open_dgram {r : Reach} {b0 : Nat} {v : Value} {d : DataW H} {ps : List MemPlace} (hv : Value.okWide Tryd.prog w r b0 46 v) (h : DataW.Trod enc Tryd.prog w base spare held 46 v d ps) :
    ∃ (f t : Int) (u : Value) (l : List UInt8) (b : Int), v = .agg #[.int .i64 f, .int .i64 t, u, .int .i64 b] ∧ Rd w [] u (ints .u8 (byts l)) ∧ (Lit.int .i64 f).wf = true ∧ (Lit.int .i64 t).wf = true ∧ (Lit.int .i64 b).wf = true := by
  obtain ⟨cs, rfl, hcs⟩ := okWide_struct Tryd.underlying46 hv
  obtain ⟨fuel, hf⟩ := h
  obtain ⟨xs, m, _, _, hl, hx, hf⟩ := DataW.trod_struct Tryd.underlying46 hf
  rw [show Tryd.prog.cellsOf 46 = 4 from by kernel_rfl] at hl
  obtain ⟨a0, a1, a, a3, hc⟩ := list_four hl
  rw [hc] at hf
  have g0 := hf 0 _ rfl
  have g1 := hf 1 _ rfl
  have h0 := hf 2 _ rfl
  have g3 := hf 3 _ rfl
  simp only [List.getElem_toArray, List.getElem_cons_zero, List.getElem_cons_succ, show Tryd.prog.cellsOf 23 = 1 from by kernel_rfl, show Tryd.prog.cellsOf 3 = 1 from by kernel_rfl] at h0 g0 g1 g3
  rw [List.getElem?_eq_getElem (by rw [hx]; decide)] at h0 g0 g1 g3
  obtain ⟨z0, hz0, _, wf0⟩ := DataW.trod_int Tryd.underlying3 g0
  obtain ⟨z1, hz1, _, wf1⟩ := DataW.trod_int Tryd.underlying3 g1
  obtain ⟨z3, hz3, _, wf3⟩ := DataW.trod_int Tryd.underlying3 g3
  simp at hz0 hz1 hz3
  have hsl : ∃ A len cap, a = .slice A len cap := by
    rcases open_slice Tryd.underlying23 h0 with ⟨hcs, _⟩ | ⟨a, l, c', _, _, _, _, hcs, _⟩
    · simp at hcs
      exact ⟨_, _, _, hcs⟩
    · simp at hcs
      exact ⟨_, _, _, hcs⟩
  obtain ⟨A, len, cap, rfl⟩ := hsl
  obtain ⟨zs, hr, hw⟩ := rd_of_trod (k := .u8) (A := A) (len := len) (cap := cap) (d := (xs[2]'(by rw [hx]; decide)).1) (p := (xs[2]'(by rw [hx]; decide)).2) Tryd.underlying23 Tryd.underlying5 (by kernel_rfl) ⟨m, by simpa [Value.cells] using h0⟩
  obtain ⟨l, rfl⟩ := byts_of zs fun n hn => u8_inD (hw n hn)
  refine ⟨z0, z1, _, l, z3, ?_, hr, wf0, wf1, wf3⟩
  have : cs = #[a0, a1, .slice A len cap, a3] := by
    have : cs.toList = [a0, a1, .slice A len cap, a3] := by simpa [Value.cells] using hc
    rw [← Array.toArray_toList (xs := cs), this]
  rw [this, hz0, hz1, hz3]
end
end
end Go.Proofs.YteoifokmbkpbnaaDoor

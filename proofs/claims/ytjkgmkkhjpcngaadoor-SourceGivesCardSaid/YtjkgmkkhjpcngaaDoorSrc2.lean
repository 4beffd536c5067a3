/-
  The source's methods: by walking. Condition: in every world that keeps what lies below B the library's table of powers of ten reads as it was laid (Secret alone).
-/
import Derived.Test.YtjkgmkkhjpcngaaDoorSrc
namespace Go.Proofs.YtjkgmkkhjpcngaaDoor
open Go.RowKit Go.Deep

theorem tab_below {w W : World} (h : Tab w) (hb : Below w.heap.size w W) : Tab W := h.only (only_of_below hb) (by simp)

theorem secret_end (w : World) (g i m : Nat) (hS : SrcIs w g 4294967295 i m) :
    Calls Tryd.prog 30 #[.pointer (some ⟨g, 0, none⟩)] w fun e w' => e = .returned (.tuple #[.string ⟨#[]⟩, .int .i64 10]) ∧ w = w' := by
  have HT := hide (fun W (h : W = w) => take_end W g 0 (by rw [h]; exact hS.cell 0))
  go_enter Tryd.func30, Tryd.ntmps30
  go_wp2_with (go_at_call 46; refine (HT.out _ rfl).mono ?_; rintro e w1 ⟨rfl, rfl⟩)
  go_ret2
  exact ⟨rfl, rfl⟩
theorem secret_more (B g a i m : Nat) (w : World) (ha : a < 4294967295) (hS : SrcIs w g a i m) (hg : B ≤ g) (hB : B ≤ w.heap.size) (htab : ∀ W, Below B w W → Tab W) :
    Calls Tryd.prog 30 #[.pointer (some ⟨g, 0, none⟩)] w fun e w' => e = .returned (.tuple #[.string ⟨(97 :: Lib.decDigits a).toArray⟩, .int .i64 0]) ∧ SrcIs w' g (a + 1) i m ∧ Below B w w' ∧ Only [g] w w' := by
  have HT := hide (take_more w g 0 a ha (hS.cell 0) (hS.frozen 0))
  have HS := hide (show SrcIs (w.setCell ⟨g, 0, none⟩ (.int .u32 ((a + 1 : Nat) : Int))) g (a + 1) i m from hS.set_ 0 _)
  have HC := hide ((Below.refl B w).setCell (p := ⟨g, 0, none⟩) hg (.int .u32 ((a + 1 : Nat) : Int)))
  have HM := hide (fun W h => make_atom a (by omega) W (htab W h))
  have HB := hide hB
  have hw : IntKind.u64.wrap (a : Int) = a := by rw [IntKind.wrap_u64]; omega
  clear hS htab hB hg
  go_enter Tryd.func30, Tryd.ntmps30
  go_wp2_with (first
    | (go_at_call 46; refine HT.out.mono ?_; rintro e w1 ⟨rfl, rfl⟩)
    | (go_at_call 47; refine (HM.out _ HC.out).mono ?_; rintro e w2 ⟨rfl, ho⟩; have HD := hide ho; clear ho))
  go_ret2
  exact ⟨rfl, Blk.below (B := g + 1) HS.out (below_of_only HD.out HS.out.lt) (Nat.lt_succ_self g), HC.out.trans (below_of_only HD.out (Nat.le_trans HB.out HC.out.size)), ((Only.refl [g] w).setCell (p := ⟨g, 0, none⟩) (.inl (by simp)) _).trans (HD.out.mono (by simp))⟩
theorem index_end (w : World) (g a m : Nat) (hS : SrcIs w g a 4294967295 m) :
    Calls Tryd.prog 32 #[.pointer (some ⟨g, 0, none⟩)] w fun e w' => e = .returned (.tuple #[.int .u32 0, .int .i64 10]) ∧ w = w' := by
  have HT := hide (fun W (h : W = w) => take_end W g 1 (by rw [h]; exact hS.cell 1))
  go_enter Tryd.func32, Tryd.ntmps32
  go_wp2_with (go_at_call 46; refine (HT.out _ rfl).mono ?_; rintro e w1 ⟨rfl, rfl⟩)
  go_ret2
  exact ⟨rfl, rfl⟩
theorem index_more (B g a i m : Nat) (w : World) (hi : i < 4294967295) (hS : SrcIs w g a i m) (hg : B ≤ g) :
    Calls Tryd.prog 32 #[.pointer (some ⟨g, 0, none⟩)] w fun e w' => e = .returned (.tuple #[.int .u32 (i : Int), .int .i64 0]) ∧ SrcIs w' g a (i + 1) m ∧ Below B w w' ∧ Only [g] w w' := by
  have HT := hide (take_more w g 1 i hi (hS.cell 1) (hS.frozen 1))
  have HS := hide (show SrcIs (w.setCell ⟨g, 1, none⟩ (.int .u32 ((i + 1 : Nat) : Int))) g a (i + 1) m from hS.set_ 1 _)
  have HC := hide ((Below.refl B w).setCell (p := ⟨g, 1, none⟩) hg (.int .u32 ((i + 1 : Nat) : Int)))
  clear hS hg
  go_enter Tryd.func32, Tryd.ntmps32
  go_wp2_with (go_at_call 46; refine HT.out.mono ?_; rintro e w1 ⟨rfl, rfl⟩)
  go_ret2
  exact ⟨rfl, HS.out, HC.out, (Only.refl [g] w).setCell (p := ⟨g, 1, none⟩) (.inl (by simp)) _⟩
theorem stamp_bad (w : World) (g a i m : Nat) (t : Int) (ht : t < 0 ∨ 1125899906842624 < t) :
    Calls Tryd.prog 34 #[.pointer (some ⟨g, 0, none⟩), .int .i64 t] w fun e w' => e = .returned (.tuple #[.int .u64 0, .int .i64 2]) ∧ w = w' := by
  rcases Int.lt_or_le t 0 with h | h
  · go_enter Tryd.func34, Tryd.ntmps34
    go_wp2
    go_ret2
    exact ⟨rfl, rfl⟩
  · have h1 : ¬ t < 0 := by omega
    have h2 : 1125899906842624 < t := by omega
    clear ht h
    go_enter Tryd.func34, Tryd.ntmps34
    go_wp2
    go_ret2
    exact ⟨rfl, rfl⟩
theorem stamp_ok (B g a i m t : Nat) (w : World) (ht : t ≤ 1125899906842624) (hm : m ≤ 2000000000000000) (hS : SrcIs w g a i m) (hg : B ≤ g) :
    Calls Tryd.prog 34 #[.pointer (some ⟨g, 0, none⟩), .int .i64 (t : Int)] w fun e w' => e = .returned (.tuple #[.int .u64 ((max m t : Nat) : Int), .int .i64 0]) ∧ SrcIs w' g a i (max m t + 1) ∧ Below B w w' ∧ Only [g] w w' := by
  have h1 : ¬ (t : Int) < 0 := by omega
  have h2 : ¬ (1125899906842624 : Int) < t := by omega
  have hw : IntKind.u64.wrap (t : Int) = t := by rw [IntKind.wrap_u64]; omega
  have hc := hS.cell 2
  have hf := hS.frozen 2
  simp only [srcC] at hc
  obtain ⟨u, hu⟩ : ∃ u, u = max m t := ⟨_, rfl⟩
  have hmx : (max (m : Int) (t : Int)) = (u : Int) := by omega
  have hw1 : IntKind.u64.wrap ((u : Int) + 1) = ((u + 1 : Nat) : Int) := by rw [IntKind.wrap_u64]; omega
  have HS := hide (show SrcIs (w.setCell ⟨g, 2, none⟩ (.int .u64 ((u + 1 : Nat) : Int))) g a i (u + 1) from hS.set_ 2 _)
  have HC := hide ((Below.refl B w).setCell (p := ⟨g, 2, none⟩) hg (.int .u64 ((u + 1 : Nat) : Int)))
  rw [← hu]
  clear hS hg hu
  go_enter Tryd.func34, Tryd.ntmps34
  go_wp2
  go_ret2
  exact ⟨rfl, HS.out, HC.out, (Only.refl [g] w).setCell (p := ⟨g, 2, none⟩) (.inl (by simp)) _⟩
theorem nil_secret (w : World) : Calls Tryd.prog 30 #[.pointer none] w fun e w' => e = .returned (.tuple #[.string ⟨#[]⟩, .int .i64 1]) ∧ w = w' := by
  go_enter Tryd.func30, Tryd.ntmps30
  go_wp2
  go_ret2
  exact ⟨rfl, rfl⟩
theorem nil_index (w : World) : Calls Tryd.prog 32 #[.pointer none] w fun e w' => e = .returned (.tuple #[.int .u32 0, .int .i64 1]) ∧ w = w' := by
  go_enter Tryd.func32, Tryd.ntmps32
  go_wp2
  go_ret2
  exact ⟨rfl, rfl⟩
theorem nil_stamp (t : Int) (w : World) : Calls Tryd.prog 34 #[.pointer none, .int .i64 t] w fun e w' => e = .returned (.tuple #[.int .u64 0, .int .i64 1]) ∧ w = w' := by
  go_enter Tryd.func34, Tryd.ntmps34
  go_wp2
  go_ret2
  exact ⟨rfl, rfl⟩
theorem nil_left (w : World) : Calls Tryd.prog 36 #[.pointer none] w fun e w' => e = .returned (.tuple #[.int .u32 0, .int .u32 0]) ∧ w = w' := by
  go_enter Tryd.func36, Tryd.ntmps36
  go_wp2
  go_ret2
  exact ⟨rfl, rfl⟩
end Go.Proofs.YtjkgmkkhjpcngaaDoor

/-
  term.join and term.Make of an Atom: by walking. Condition: the library's table of powers of ten reads as it was laid.
-/
import Derived.Test.YtjkgmkkhjpcngaaDoorLt
import Derived.Test.YtjkgmkkhjpcngaaDoorNr1
import Derived.Handy
namespace Go.Proofs.YtjkgmkkhjpcngaaDoor
open Go.RowKit Go.Deep

abbrev IsB (B b : Nat) (bs : List Value) (w : World) : Prop := Lib.IsBuilder 97 5 B b bs w
theorem bd_only {B b : Nat} {bs : List Value} {w w' : World} (h : IsB B b bs w) (ho : Only [] w w') : IsB B b bs w' := by
  rcases h with h | h
  · obtain ⟨hB, v, hb, hown, hne⟩ := h
    exact .inl ⟨hB, v, (ho.block b (bd_lt hb) (by simp)).trans hb, own_only hown ho (by simp), hne⟩
  · obtain ⟨hB, v, hb, hown, hne⟩ := h
    exact .inr ⟨hB, v, (ho.block b (bd_lt hb) (by simp)).trans hb, own_only hown ho (by simp), hne⟩
theorem only_of_below {w w' : World} (h : Below w.heap.size w w') : Only [] w w' := ⟨h.os, h.tape, h.output, h.size, fun k hk _ => h.block k hk⟩
theorem below_of_only {B : Nat} {w w' : World} (h : Only [] w w') (hB : B ≤ w.heap.size) : Below B w w' := h.below (fun x hx => by cases hx) hB
theorem cells_text (l : List UInt8) : [] ++ [Value.int .u8 97] ++ Lib.strCells ⟨l.toArray⟩ = Lib.byteCells (97 :: l) := by
  simp [Lib.byteCells, Lib.strCells]

set_option maxRecDepth 100000 in
set_option maxHeartbeats 3200000 in
theorem join_atom (n : Nat) (hn : n < 18446744073709551616) (vb vl : Value) (w : World) (htab : Tab w) :
    Calls Tryd.prog 59 #[.int .u8 97, .int .i64 2, .int .u64 n, vb, vl] w (StrPost (97 :: Lib.decDigits n) w) := by
  have hdl := dec_len n hn
  have HB := hide (show IsB w.heap.size w.heap.size [] (w.alloc (.cells #[.pointer none, .slice none 0 0] 97)) from Lib.fresh_isBuilder _ _ _)
  have HC := hide (show Below w.heap.size w (w.alloc (.cells #[.pointer none, .slice none 0 0] 97)) from below_of_only ((Only.refl [] w).alloc _) (Nat.le_refl _))
  have HT := hide htab
  have HN := hide hn
  clear htab hn
  go_enter Tryd.func59, Tryd.ntmps59
  go_wp2_with (first
    | (go_at_call 65; refine (write_byte w.heap.size w.heap.size _ _ _ HB.out (by simp) HC.out.size).mono ?_; rintro e w1 ⟨rfl, h1, hb1⟩; have HC := hide (HC.out.trans hb1); have HB := hide h1; clear h1 hb1)
    | (go_at_call 15; refine (print_any n HN.out _ (HT.out.only (only_of_below HC.out) (by simp))).mono ?_; rintro e w2 ⟨rfl, ho⟩; have HB := hide (bd_only HB.out ho); have HC := hide (HC.out.trans (below_of_only ho HC.out.size)); clear ho)
    | (go_at_call 66; refine (write_string w.heap.size w.heap.size _ _ _ HB.out (by simp [ByteArray.size]; omega) HC.out.size).mono ?_; rintro e w3 ⟨rfl, h1, hb1⟩; have HC := hide (HC.out.trans hb1); have HB := hide h1; clear h1 hb1)
    | (go_at_call 68; refine (Tryd.Builder_String_any w.heap.size w.heap.size (97 :: Lib.decDigits n) _ (cells_text (Lib.decDigits n) ▸ HB.out) HC.out.size).mono ?_; rintro e w4 ⟨rfl, hb1⟩; have HC := hide (HC.out.trans hb1); clear hb1))
  go_ret
  exact strpost rfl (only_of_below HC.out)
end Go.Proofs.YtjkgmkkhjpcngaaDoor

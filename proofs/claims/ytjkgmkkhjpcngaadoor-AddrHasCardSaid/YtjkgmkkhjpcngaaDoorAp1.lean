/-
  addr.Print of an address of four bytes, addr.PrintPrefix: by walking. Condition: the library's table of powers of ten reads as it was laid.
-/
import Derived.Test.YtjkgmkkhjpcngaaDoorAd7
import Derived.Test.YtjkgmkkhjpcngaaDoorJoin
namespace Go.Proofs.YtjkgmkkhjpcngaaDoor
open Go.RowKit Go.Deep

/-- The text of an address with points, up to a byte. -/
def dotV (l : List UInt8) : Nat → List UInt8
  | 0 => []
  | k + 1 => dotV l k ++ ((if k = 0 then [] else [46]) ++ Lib.decDigits (l.getD k 0).toNat)
theorem dot_len (l : List UInt8) : ∀ k, (dotV l k).length ≤ 21 * k
  | 0 => by simp [dotV]
  | k + 1 => by
    have h1 := dot_len l k
    have h2 := dec_len (l.getD k 0).toNat (Nat.lt_of_lt_of_le (UInt8.toNat_lt _) (by decide))
    simp only [dotV, List.length_append]
    generalize (Lib.decDigits (l.getD k 0).toNat).length = x at *
    split <;> simp only [List.length_nil, List.length_singleton] <;> omega
theorem bc_push (bs : List UInt8) (c : UInt8) : Lib.byteCells bs ++ [Value.int .u8 (c.toNat : Int)] = Lib.byteCells (bs ++ [c]) := by simp [Lib.byteCells]
theorem bc_string (bs l : List UInt8) : Lib.byteCells bs ++ Lib.strCells ⟨l.toArray⟩ = Lib.byteCells (bs ++ l) := by simp [Lib.byteCells, Lib.strCells]
theorem bc_len (bs : List UInt8) : (Lib.byteCells bs).length = bs.length := by simp [Lib.byteCells]
def TxtPost (l : List UInt8) (w : World) (e : Ending) (w' : World) : Prop := e = .returned (.tuple #[.string ⟨l.toArray⟩, .int .i64 0]) ∧ Only [] w w'
theorem txtpost {l m : List UInt8} {w w' : World} (h : l = m) (ho : Only [] w w') : TxtPost l w (.returned (.tuple #[.string ⟨m.toArray⟩, .int .i64 0])) w' := by subst h; exact ⟨rfl, ho⟩
theorem isb_eq {B b : Nat} {bs cs : List Value} {w : World} (h : IsB B b bs w) (e : bs = cs) : IsB B b cs w := e ▸ h

set_option maxRecDepth 100000 in
set_option maxHeartbeats 6400000 in
theorem print_four (v : Value) (l : List UInt8) (N : List Nat) (w : World) (hv : Rd w N v (ints .u8 (byts l))) (h4 : l.length = 4) (htab : Tab w) :
    Calls Tryd.prog 53 #[v] w (TxtPost (dotV l 4) w) := by
  have HV := hide (hv.less (N' := []) (fun x hx => by cases hx))
  obtain ⟨A, cap, rfl, hcp, hcm⟩ := hv.formb
  rw [h4] at HV hcp ⊢
  have HN := hide h4
  have HB := hide (isb_eq (show IsB w.heap.size w.heap.size [] (w.alloc (.cells #[.pointer none, .slice none 0 0] 97)) from Lib.fresh_isBuilder _ _ _) (show [] = Lib.byteCells (dotV l 0) by simp [Lib.byteCells, dotV]))
  have HC := hide (show Below w.heap.size w (w.alloc (.cells #[.pointer none, .slice none 0 0] 97)) from below_of_only ((Only.refl [] w).alloc _) (Nat.le_refl _))
  have HT := hide htab
  clear htab hv h4
  go_enter Tryd.func53, Tryd.ntmps53
  go_wp2_with fail
  obtain ⟨w0, hw0⟩ : ∃ w0, w0 = w.alloc (.cells #[.pointer none, .slice none 0 0] 97) := ⟨_, rfl⟩
  rw [← hw0] at HB HC ⊢
  clear hw0
  go_loopw [15] (fun i wr => ∃ k : Nat, k ≤ 4 ∧ i = .int .i64 k ∧ Hid (IsB w.heap.size w.heap.size (Lib.byteCells (dotV l k)) wr) ∧ Hid (Below w.heap.size w wr)) (fun i _ => 4 - (intOf i).toNat)
  case atStart => exact ⟨0, Nat.zero_le _, rfl, HB, HC⟩
  case round =>
    obtain ⟨k, hk, rfl, HB, HC⟩ := hrel
    have hdl := dot_len l k
    by_cases hlt : k < 4
    · have hltI : (k : Int) < 4 := by omega
      have hg1 := getD_some (l := l) (k := k) (by rw [HN.out]; exact hlt)
      obtain ⟨g, o, rfl, _, hg, hcell⟩ := (HV.out.only (only_of_below HC.out) (by simp)).at_.2.2.2 k _ (ints_get (byts_get hg1))
      have hc1 := UInt8.toNat_lt (l.getD k 0)
      have hds : dotV l (k + 1) = dotV l k ++ ((if k = 0 then [] else [46]) ++ Lib.decDigits (l.getD k 0).toNat) := rfl
      have hdl2 := dec_len (l.getD k 0).toNat (Nat.lt_of_lt_of_le (UInt8.toNat_lt _) (by decide))
      obtain ⟨c, hcc⟩ : ∃ c, c = (l.getD k 0).toNat := ⟨_, rfl⟩
      rw [← hcc] at hcell hc1 hds hdl2
      have HL := hide hdl2
      have HL1 := hide (show (dotV l k).length ≤ 84 by omega)
      have HC64 := hide (show c < 18446744073709551616 by omega)
      by_cases h0 : k = 0
      · have hzero : ¬ (0 : Int) < k := by omega
        have HD := hide hds
        have HK0 := hide h0
        clear hds hdl2 hdl hcc hg1 h0
        go_wp2_with (first
          | (go_at_call 15; refine (print_any c HC64.out _ (HT.out.only (only_of_below HC.out) (by simp))).mono ?_; rintro e w2 ⟨rfl, ho⟩; have HB := hide (bd_only HB.out ho); have HC := hide (HC.out.trans (below_of_only ho HC.out.size)); clear ho)
          | (go_at_call 66; refine (write_string w.heap.size w.heap.size _ _ _ HB.out (by rw [bc_len]; have := HL.out; have := HL1.out; simp [ByteArray.size]; omega) HC.out.size).mono ?_; rintro e w3 ⟨rfl, h1, hb1⟩; have HC := hide (HC.out.trans hb1); have HB := hide (isb_eq h1 (bc_string _ _)); clear h1 hb1))
        go_roundw
        case rel => exact ⟨k + 1, by omega, by go_num, hide (isb_eq HB.out (by rw [HD.out, if_pos HK0.out]; simp)), HC⟩
        case measure => simp [intOf]; omega
      · have hpos : (0 : Int) < k := by omega
        have HD := hide hds
        have HK0 := hide h0
        clear hds hdl2 hdl hcc hg1 h0
        go_wp2_with (first
          | (go_at_call 65; refine (write_byte w.heap.size w.heap.size _ _ _ HB.out (by rw [bc_len]; have := HL1.out; omega) HC.out.size).mono ?_; rintro e w1 ⟨rfl, h1, hb1⟩; have HC := hide (HC.out.trans hb1); have HB := hide (isb_eq h1 (bc_push _ 46)); clear h1 hb1)
          | (go_at_call 15; refine (print_any c HC64.out _ (HT.out.only (only_of_below HC.out) (by simp))).mono ?_; rintro e w2 ⟨rfl, ho⟩; have HB := hide (bd_only HB.out ho); have HC := hide (HC.out.trans (below_of_only ho HC.out.size)); clear ho)
          | (go_at_call 66; refine (write_string w.heap.size w.heap.size _ _ _ HB.out (by rw [bc_len]; have := HL.out; have := HL1.out; simp [ByteArray.size]; omega) HC.out.size).mono ?_; rintro e w3 ⟨rfl, h1, hb1⟩; have HC := hide (HC.out.trans hb1); have HB := hide (isb_eq h1 (bc_string _ _)); clear h1 hb1))
        go_roundw
        case rel => exact ⟨k + 1, by omega, by go_num, hide (isb_eq HB.out (by rw [HD.out, if_neg HK0.out]; simp)), HC⟩
        case measure => simp [intOf]; omega
    · obtain rfl : k = 4 := by omega
      go_wp2_with (go_at_call 68; refine (Tryd.Builder_String_any w.heap.size w.heap.size (dotV l 4) _ HB.out HC.out.size).mono ?_; rintro e w4 ⟨rfl, hb1⟩; have HC := hide (HC.out.trans hb1); clear hb1)
      go_ret2
      exact txtpost rfl (only_of_below HC.out)
end Go.Proofs.YtjkgmkkhjpcngaaDoor

/-
  term.join of every kind but the Dh: by walking. Condition: the text has at most 1,000,000 bytes; the library's table of powers of ten reads as it was laid.
-/
import Derived.Test.YtfmfnfmhknlpbaaDoorZC
import Derived.Test.YtfmfnfmhknlpbaaDoorZD
namespace Go.Proofs.YtfmfnfmhknlpbaaDoor
open Go.RowKit Go.Deep

theorem joinL_snoc : ∀ (l : List ByteArray) (x : ByteArray), joinL (l ++ [x]) = joinL l ++ ((if l = [] then [] else [44]) ++ x.data.toList)
  | [], x => by simp [joinL]
  | [a], x => by simp [joinL]
  | a :: b :: r, x => by
    have h := joinL_snoc (b :: r) x
    rw [if_neg (by simp)] at h ⊢
    rw [show (a :: b :: r) ++ [x] = a :: b :: (r ++ [x]) from rfl, joinL, show b :: (r ++ [x]) = (b :: r) ++ [x] from rfl, h, joinL]
    simp
theorem joinL_take (l : List ByteArray) (k : Nat) (hk : k < l.length) : joinL (l.take (k + 1)) = joinL (l.take k) ++ ((if k = 0 then [] else [44]) ++ (l.getD k ByteArray.empty).data.toList) := by
  have h : l.take (k + 1) = l.take k ++ [l.getD k ByteArray.empty] := by
    rw [List.take_succ_eq_append_getElem hk]
    simp [List.getElem?_eq_getElem hk]
  rw [h, joinL_snoc]
  congr 2
  by_cases h0 : k = 0
  · subst h0; simp
  · rw [if_neg h0, if_neg]
    intro e
    have h2 := congrArg List.length e
    rw [List.length_take, List.length_nil] at h2
    omega
theorem joinL_take_le (l : List ByteArray) (k : Nat) : k ≤ l.length → (joinL (l.take k)).length ≤ (joinL l).length := by
  have step : ∀ j, j < l.length → (joinL (l.take j)).length ≤ (joinL (l.take (j + 1))).length := by
    intro j hj
    rw [joinL_take l j hj, List.length_append]
    omega
  have all : ∀ d j, j + d = l.length → (joinL (l.take j)).length ≤ (joinL l).length := by
    intro d
    induction d with
    | zero => intro j hj; rw [List.take_of_length_le (by omega)]; exact Nat.le_refl _
    | succ d ih => intro j hj; exact Nat.le_trans (step j (by omega)) (ih (j + 1) (by omega))
  intro hk
  exact all (l.length - k) k (by omega)
/-- What stands in front of the parts. -/
def headL (k : Int) (n : Nat) : List UInt8 := [letU k] ++ [40] ++ (if numberedV k = true then Lib.decDigits n ++ [44] else [])
theorem txt_head (k : Int) (n : Nat) (b : List UInt8) (l : List ByteArray) (h5 : 5 ≤ k) (hl : numberedV k = true → l ≠ []) : txtL k n b l = headL k n ++ joinL l ++ [41] := by
  unfold txtL headL
  rw [if_neg (by omega), if_neg (by omega), if_neg (by omega)]
  cases h : numberedV k with
  | true => rw [if_pos rfl, if_pos rfl, if_neg (hl h)]; simp
  | false => rw [if_neg (by decide), if_neg (by decide)]; simp
theorem fresh_bc (w : World) : IsB w.heap.size w.heap.size (Lib.byteCells []) (w.alloc (.cells #[.pointer none, .slice none 0 0] 124)) := Lib.fresh_isBuilder _ _ _
theorem bc_bytes (bs : List UInt8) (s : ByteArray) : Lib.byteCells bs ++ Lib.strCells s = Lib.byteCells (bs ++ s.data.toList) := by simp [Lib.byteCells, Lib.strCells]
theorem let_nat (k : Int) : ((letU k).toNat : Int) < 256 := by have := (letU k).toNat_lt; omega

set_option maxRecDepth 100000 in
set_option maxHeartbeats 6400000 in
theorem join_leaf (k : Int) (h1 : 1 ≤ k) (h4 : k ≤ 4) (n : Nat) (hn : n < 18446744073709551616) (bv lv : Value) (b : List UInt8) (l : List ByteArray) (w : World) (hb : k = 4 → b.length ≤ 1000000 ∧ Rd w [] bv (ints .u8 (byts b))) (htab : Tab w) :
    Calls Tryd.prog 60 #[.int .u8 ((letU k).toNat : Nat), .int .i64 k, .int .u64 n, bv, lv] w (StrPost (txtL k n b l) w) := by
  have HDL := hide (dec_len n hn)
  have HB := hide (fresh_bc w)
  have HC := hide (show Below w.heap.size w (w.alloc (.cells #[.pointer none, .slice none 0 0] 124)) from below_of_only ((Only.refl [] w).alloc _) (Nat.le_refl _))
  have HT := hide htab
  have HN := hide hn
  clear htab hn
  rcases (show k = 1 ∨ k = 2 ∨ k = 3 ∨ k = 4 by omega) with rfl | rfl | rfl | rfl
  · clear hb
    go_enter Tryd.func60, Tryd.ntmps60
    go_wp2_with (first
      | (go_at_call 85; refine (write_byte w.heap.size w.heap.size _ _ _ HB.out (by rw [bc_len]; have := HDL.out; simp; try omega) HC.out.size).mono ?_; rintro e w1 ⟨rfl, h1, hb1⟩; have HC := hide (HC.out.trans hb1); (first | (have HB := hide (isb_eq h1 (bc_push _ (letU 1))))); clear h1 hb1)
      | (go_at_call 86; refine (Tryd.Builder_String_any w.heap.size w.heap.size _ _ HB.out HC.out.size).mono ?_; rintro e w4 ⟨rfl, hb1⟩; have HC := hide (HC.out.trans hb1); clear hb1))
    go_ret
    exact strpost rfl (only_of_below HC.out)
  · clear hb
    go_enter Tryd.func60, Tryd.ntmps60
    go_wp2_with (first
      | (go_at_call 85; refine (write_byte w.heap.size w.heap.size _ _ _ HB.out (by rw [bc_len]; have := HDL.out; simp; try omega) HC.out.size).mono ?_; rintro e w1 ⟨rfl, h1, hb1⟩; have HC := hide (HC.out.trans hb1); (first | (have HB := hide (isb_eq h1 (bc_push _ (letU 2))))); clear h1 hb1)
      | (go_at_call 88; refine (print_any n HN.out _ (HT.out.only (only_of_below HC.out) (by simp))).mono ?_; rintro e w2 ⟨rfl, ho⟩; have HB := hide (bd_only HB.out ho); have HC := hide (HC.out.trans (below_of_only ho HC.out.size)); clear ho)
      | (go_at_call 87; refine (write_string w.heap.size w.heap.size _ _ _ HB.out (by rw [bc_len]; have := HDL.out; simp [ByteArray.size]; try omega) HC.out.size).mono ?_; rintro e w3 ⟨rfl, h1, hb1⟩; have HC := hide (HC.out.trans hb1); have HB := hide (isb_eq h1 (bc_string _ _)); clear h1 hb1)
      | (go_at_call 86; refine (Tryd.Builder_String_any w.heap.size w.heap.size _ _ HB.out HC.out.size).mono ?_; rintro e w4 ⟨rfl, hb1⟩; have HC := hide (HC.out.trans hb1); clear hb1))
    go_ret
    exact strpost rfl (only_of_below HC.out)
  · clear hb
    go_enter Tryd.func60, Tryd.ntmps60
    go_wp2_with (first
      | (go_at_call 85; refine (write_byte w.heap.size w.heap.size _ _ _ HB.out (by rw [bc_len]; have := HDL.out; simp; try omega) HC.out.size).mono ?_; rintro e w1 ⟨rfl, h1, hb1⟩; have HC := hide (HC.out.trans hb1); (first | (have HB := hide (isb_eq h1 (bc_push _ (letU 3))))); clear h1 hb1)
      | (go_at_call 88; refine (print_any n HN.out _ (HT.out.only (only_of_below HC.out) (by simp))).mono ?_; rintro e w2 ⟨rfl, ho⟩; have HB := hide (bd_only HB.out ho); have HC := hide (HC.out.trans (below_of_only ho HC.out.size)); clear ho)
      | (go_at_call 87; refine (write_string w.heap.size w.heap.size _ _ _ HB.out (by rw [bc_len]; have := HDL.out; simp [ByteArray.size]; try omega) HC.out.size).mono ?_; rintro e w3 ⟨rfl, h1, hb1⟩; have HC := hide (HC.out.trans hb1); have HB := hide (isb_eq h1 (bc_string _ _)); clear h1 hb1)
      | (go_at_call 86; refine (Tryd.Builder_String_any w.heap.size w.heap.size _ _ HB.out HC.out.size).mono ?_; rintro e w4 ⟨rfl, hb1⟩; have HC := hide (HC.out.trans hb1); clear hb1))
    go_ret
    exact strpost rfl (only_of_below HC.out)
  · obtain ⟨hbl, hb⟩ := hb rfl
    have HXL := hide (show (hexS b).length ≤ 2000000 by rw [hexS_length]; omega)
    have HV := hide hb
    have HBL := hide hbl
    clear hb hbl
    go_enter Tryd.func60, Tryd.ntmps60
    go_wp2_with (first
      | (go_at_call 85; refine (write_byte w.heap.size w.heap.size _ _ _ HB.out (by rw [bc_len]; have := HDL.out; simp; try omega) HC.out.size).mono ?_; rintro e w1 ⟨rfl, h1, hb1⟩; have HC := hide (HC.out.trans hb1); (first | (have HB := hide (isb_eq h1 (bc_push _ (letU 4))))); clear h1 hb1)
      | (go_at_call 89; refine (num_hex _ [] _ b (HV.out.only (only_of_below HC.out) (by simp)) HBL.out).mono ?_; rintro e w2 ⟨rfl, ho⟩; have HB := hide (bd_only HB.out ho); have HC := hide (HC.out.trans (below_of_only ho HC.out.size)); clear ho)
      | (go_at_call 87; refine (write_string w.heap.size w.heap.size _ _ _ HB.out (by rw [bc_len]; have := HXL.out; simp [ByteArray.size]; try omega) HC.out.size).mono ?_; rintro e w3 ⟨rfl, h1, hb1⟩; have HC := hide (HC.out.trans hb1); have HB := hide (isb_eq h1 (bc_string _ _)); clear h1 hb1)
      | (go_at_call 86; refine (Tryd.Builder_String_any w.heap.size w.heap.size _ _ HB.out HC.out.size).mono ?_; rintro e w4 ⟨rfl, hb1⟩; have HC := hide (HC.out.trans hb1); clear hb1))
    go_ret
    exact strpost rfl (only_of_below HC.out)

set_option maxRecDepth 100000 in
set_option maxHeartbeats 6400000 in
theorem join_gen (k : Int) (h5 : 5 ≤ k) (h11 : k ≤ 11) (h6 : k ≠ 6) (n : Nat) (hn : n < 18446744073709551616) (bv lv : Value) (b : List UInt8) (l : List ByteArray) (hl : numberedV k = true → l ≠ []) (hll : (joinL l).length ≤ 1000000) (w : World) (hv : Rd w [] lv (strs l)) (htab : Tab w) :
    Calls Tryd.prog 60 #[.int .u8 ((letU k).toNat : Nat), .int .i64 k, .int .u64 n, bv, lv] w (StrPost (txtL k n b l) w) := by
  have HDL := hide (dec_len n hn)
  have HTX := hide (txt_head k n b l h5 hl)
  have HHL := hide (show (headL k n).length ≤ 30 by unfold headL; have := dec_len n hn; simp only [List.length_append, List.length_singleton]; split <;> simp <;> omega)
  obtain ⟨A, cap, rfl, hc1, hc2⟩ := hv.form
  unfold maxLen at hc2
  rw [strs_length] at hv hc1 ⊢
  obtain ⟨m, hm⟩ : ∃ m, m = l.length := ⟨_, rfl⟩
  have HM := hide hm
  rw [← hm] at hv hc1 ⊢
  have HB := hide (fresh_bc w)
  have HC := hide (show Below w.heap.size w (w.alloc (.cells #[.pointer none, .slice none 0 0] 124)) from below_of_only ((Only.refl [] w).alloc _) (Nat.le_refl _))
  have HT := hide htab
  have HN := hide hn
  have HV := hide hv
  have HLL := hide hll
  have t1 : (k == 1) = false := by rw [beq_eq_false_iff_ne]; omega
  have t2 : (k == 2) = false := by rw [beq_eq_false_iff_ne]; omega
  have t3 : (k == 3) = false := by rw [beq_eq_false_iff_ne]; omega
  have t4 : (k == 4) = false := by rw [beq_eq_false_iff_ne]; omega
  have t6 : (k == 6) = false := by rw [beq_eq_false_iff_ne]; omega
  clear htab hn hv hl hll hm h5 h11 h6
  cases hnb : numberedV k with
  | false =>
    have HNB := hide hnb
    have HHD := hide (show headL k n = [letU k] ++ [40] by unfold headL; rw [hnb]; simp)
    clear hnb
    go_enter Tryd.func60, Tryd.ntmps60
    go_wp2_with (first
      | (go_at_call 85; refine (write_byte w.heap.size w.heap.size _ _ _ HB.out (by rw [bc_len]; have := HDL.out; simp; try omega) HC.out.size).mono ?_; rintro e w1 ⟨rfl, h1, hb1⟩; have HC := hide (HC.out.trans hb1); (first | (have HB := hide (isb_eq h1 (bc_push _ (letU k)))) | (have HB := hide (isb_eq h1 (bc_push _ 40)))); clear h1 hb1)
      | (go_at_call 57; refine (numbered_any _ _).mono ?_; rintro e w' ⟨rfl, rfl⟩; rw [HNB.out]))
    go_quiet (fail)
    go_wp2_with fail
    have HB := hide (isb_eq (bd_only HB.out ((Only.refl [] _).drewN nq)) (show _ = Lib.byteCells (headL k n ++ joinL (l.take 0)) by rw [HHD.out]; simp [joinL]))
    have HC := hide (below_drewN HC.out nq)
    go_loopw [60] (fun i wr => ∃ j : Nat, j ≤ m ∧ i = .int .i64 j ∧ Hid (IsB w.heap.size w.heap.size (Lib.byteCells (headL k n ++ joinL (l.take j))) wr) ∧ Hid (Below w.heap.size w wr)) (fun i _ => m - (intOf i).toNat)
    case atStart => exact ⟨0, Nat.zero_le _, rfl, HB, HC⟩
    case round =>
      clear HB HC
      obtain ⟨j, hj, rfl, HB, HC⟩ := hrel
      by_cases hlt : j < m
      · have hltI : (j : Int) < m := by omega
        have hjl : j < l.length := by rw [← HM.out]; exact hlt
        have HJ := hide (joinL_take l j hjl)
        have HL1 := hide (show (joinL (l.take j)).length ≤ 1000000 from Nat.le_trans (joinL_take_le l j (Nat.le_of_lt hjl)) HLL.out)
        obtain ⟨g, o, rfl, _, hg, hcell⟩ := (HV.out.only (only_of_below HC.out) (by simp)).at_.2.2.2 j (.string (l.getD j ByteArray.empty)) (by simp [strs, List.getElem?_eq_getElem hjl])
        have HL2 := hide (show (l.getD j ByteArray.empty).size ≤ 1000000 from Nat.le_trans (join_mem l _ (by rw [List.getD_eq_getElem?_getD, List.getElem?_eq_getElem hjl]; exact List.getElem_mem hjl)) HLL.out)
        generalize l.getD j ByteArray.empty = part at *
        by_cases h0 : j = 0
        · have hzero : ¬ (0 : Int) < j := by omega
          have HK0 := hide h0
          clear h0 hjl
          go_wp2_with (first
            | (go_at_call 87; refine (write_string w.heap.size w.heap.size _ _ _ HB.out (by rw [bc_len]; have := HL1.out; have := HL2.out; have := HHL.out; simp only [List.length_append, List.length_cons, List.length_nil]; omega) HC.out.size).mono ?_; rintro e w3 ⟨rfl, h1, hb1⟩; have HC := hide (HC.out.trans hb1); have HB := hide (isb_eq h1 (bc_bytes _ _)); clear h1 hb1))
          go_roundw
          case rel => exact ⟨j + 1, by omega, by go_num, hide (isb_eq HB.out (by rw [HJ.out, if_pos HK0.out]; simp)), HC⟩
          case measure => simp [intOf]; omega
        · have hpos : (0 : Int) < j := by omega
          have HK0 := hide h0
          clear h0 hjl
          go_wp2_with (first
            | (go_at_call 85; refine (write_byte w.heap.size w.heap.size _ _ _ HB.out (by rw [bc_len]; have := HL1.out; have := HL2.out; have := HHL.out; simp only [List.length_append, List.length_cons, List.length_nil]; omega) HC.out.size).mono ?_; rintro e w1 ⟨rfl, h1, hb1⟩; have HC := hide (HC.out.trans hb1); (first | (have HB := hide (isb_eq h1 (bc_push _ 44)))); clear h1 hb1)
            | (go_at_call 87; refine (write_string w.heap.size w.heap.size _ _ _ HB.out (by rw [bc_len]; have := HL1.out; have := HL2.out; have := HHL.out; simp only [List.length_append, List.length_cons, List.length_nil]; omega) HC.out.size).mono ?_; rintro e w3 ⟨rfl, h1, hb1⟩; have HC := hide (HC.out.trans hb1); have HB := hide (isb_eq h1 (bc_bytes _ _)); clear h1 hb1))
          go_roundw
          case rel => exact ⟨j + 1, by omega, by go_num, hide (isb_eq HB.out (by rw [HJ.out, if_neg HK0.out]; simp)), HC⟩
          case measure => simp [intOf]; omega
      · have hge : ¬ (j : Int) < m := by omega
        have HB := hide (isb_eq HB.out (show _ = Lib.byteCells (headL k n ++ joinL l) by rw [List.take_of_length_le (by have := HM.out; omega)]))
        have HL1 := HLL
        go_wp2_with (first
          | (go_at_call 85; refine (write_byte w.heap.size w.heap.size _ _ _ HB.out (by rw [bc_len]; have := HL1.out; have := HHL.out; simp only [List.length_append, List.length_cons, List.length_nil]; omega) HC.out.size).mono ?_; rintro e w1 ⟨rfl, h1, hb1⟩; have HC := hide (HC.out.trans hb1); (first | (have HB := hide (isb_eq h1 (bc_push _ 41)))); clear h1 hb1)
          | (go_at_call 86; refine (Tryd.Builder_String_any w.heap.size w.heap.size _ _ HB.out HC.out.size).mono ?_; rintro e w4 ⟨rfl, hb1⟩; have HC := hide (HC.out.trans hb1); clear hb1))
        go_ret
        exact strpost (by rw [HTX.out]; simp) (only_of_below HC.out)
  | true =>
    have HNB := hide hnb
    have HHD := hide (show headL k n = [letU k] ++ [40] ++ (Lib.decDigits n ++ [44]) by unfold headL; rw [hnb]; simp)
    clear hnb
    go_enter Tryd.func60, Tryd.ntmps60
    go_wp2_with (first
      | (go_at_call 85; refine (write_byte w.heap.size w.heap.size _ _ _ HB.out (by rw [bc_len]; have := HDL.out; simp; try omega) HC.out.size).mono ?_; rintro e w1 ⟨rfl, h1, hb1⟩; have HC := hide (HC.out.trans hb1); (first | (have HB := hide (isb_eq h1 (bc_push _ (letU k)))) | (have HB := hide (isb_eq h1 (bc_push _ 40))) | (have HB := hide (isb_eq h1 (bc_push _ 44)))); clear h1 hb1)
      | (go_at_call 57; refine (numbered_any _ _).mono ?_; rintro e w' ⟨rfl, rfl⟩; rw [HNB.out])
      | (go_at_call 88; refine (print_any n HN.out _ (HT.out.only (only_of_below HC.out) (by simp))).mono ?_; rintro e w2 ⟨rfl, ho⟩; have HB := hide (bd_only HB.out ho); have HC := hide (HC.out.trans (below_of_only ho HC.out.size)); clear ho)
      | (go_at_call 87; refine (write_string w.heap.size w.heap.size _ _ _ HB.out (by rw [bc_len]; have := HDL.out; simp [ByteArray.size]; try omega) HC.out.size).mono ?_; rintro e w3 ⟨rfl, h1, hb1⟩; have HC := hide (HC.out.trans hb1); have HB := hide (isb_eq h1 (bc_string _ _)); clear h1 hb1))
    go_quiet (fail)
    go_wp2_with fail
    have HB := hide (isb_eq (bd_only HB.out ((Only.refl [] _).drewN nq)) (show _ = Lib.byteCells (headL k n ++ joinL (l.take 0)) by rw [HHD.out]; simp [joinL]))
    have HC := hide (below_drewN HC.out nq)
    go_loopw [60] (fun i wr => ∃ j : Nat, j ≤ m ∧ i = .int .i64 j ∧ Hid (IsB w.heap.size w.heap.size (Lib.byteCells (headL k n ++ joinL (l.take j))) wr) ∧ Hid (Below w.heap.size w wr)) (fun i _ => m - (intOf i).toNat)
    case atStart => exact ⟨0, Nat.zero_le _, rfl, HB, HC⟩
    case round =>
      clear HB HC
      obtain ⟨j, hj, rfl, HB, HC⟩ := hrel
      by_cases hlt : j < m
      · have hltI : (j : Int) < m := by omega
        have hjl : j < l.length := by rw [← HM.out]; exact hlt
        have HJ := hide (joinL_take l j hjl)
        have HL1 := hide (show (joinL (l.take j)).length ≤ 1000000 from Nat.le_trans (joinL_take_le l j (Nat.le_of_lt hjl)) HLL.out)
        obtain ⟨g, o, rfl, _, hg, hcell⟩ := (HV.out.only (only_of_below HC.out) (by simp)).at_.2.2.2 j (.string (l.getD j ByteArray.empty)) (by simp [strs, List.getElem?_eq_getElem hjl])
        have HL2 := hide (show (l.getD j ByteArray.empty).size ≤ 1000000 from Nat.le_trans (join_mem l _ (by rw [List.getD_eq_getElem?_getD, List.getElem?_eq_getElem hjl]; exact List.getElem_mem hjl)) HLL.out)
        generalize l.getD j ByteArray.empty = part at *
        by_cases h0 : j = 0
        · have hzero : ¬ (0 : Int) < j := by omega
          have HK0 := hide h0
          clear h0 hjl
          go_wp2_with (first
            | (go_at_call 87; refine (write_string w.heap.size w.heap.size _ _ _ HB.out (by rw [bc_len]; have := HL1.out; have := HL2.out; have := HHL.out; simp only [List.length_append, List.length_cons, List.length_nil]; omega) HC.out.size).mono ?_; rintro e w3 ⟨rfl, h1, hb1⟩; have HC := hide (HC.out.trans hb1); have HB := hide (isb_eq h1 (bc_bytes _ _)); clear h1 hb1))
          go_roundw
          case rel => exact ⟨j + 1, by omega, by go_num, hide (isb_eq HB.out (by rw [HJ.out, if_pos HK0.out]; simp)), HC⟩
          case measure => simp [intOf]; omega
        · have hpos : (0 : Int) < j := by omega
          have HK0 := hide h0
          clear h0 hjl
          go_wp2_with (first
            | (go_at_call 85; refine (write_byte w.heap.size w.heap.size _ _ _ HB.out (by rw [bc_len]; have := HL1.out; have := HL2.out; have := HHL.out; simp only [List.length_append, List.length_cons, List.length_nil]; omega) HC.out.size).mono ?_; rintro e w1 ⟨rfl, h1, hb1⟩; have HC := hide (HC.out.trans hb1); (first | (have HB := hide (isb_eq h1 (bc_push _ 44)))); clear h1 hb1)
            | (go_at_call 87; refine (write_string w.heap.size w.heap.size _ _ _ HB.out (by rw [bc_len]; have := HL1.out; have := HL2.out; have := HHL.out; simp only [List.length_append, List.length_cons, List.length_nil]; omega) HC.out.size).mono ?_; rintro e w3 ⟨rfl, h1, hb1⟩; have HC := hide (HC.out.trans hb1); have HB := hide (isb_eq h1 (bc_bytes _ _)); clear h1 hb1))
          go_roundw
          case rel => exact ⟨j + 1, by omega, by go_num, hide (isb_eq HB.out (by rw [HJ.out, if_neg HK0.out]; simp)), HC⟩
          case measure => simp [intOf]; omega
      · have hge : ¬ (j : Int) < m := by omega
        have HB := hide (isb_eq HB.out (show _ = Lib.byteCells (headL k n ++ joinL l) by rw [List.take_of_length_le (by have := HM.out; omega)]))
        have HL1 := HLL
        go_wp2_with (first
          | (go_at_call 85; refine (write_byte w.heap.size w.heap.size _ _ _ HB.out (by rw [bc_len]; have := HL1.out; have := HHL.out; simp only [List.length_append, List.length_cons, List.length_nil]; omega) HC.out.size).mono ?_; rintro e w1 ⟨rfl, h1, hb1⟩; have HC := hide (HC.out.trans hb1); (first | (have HB := hide (isb_eq h1 (bc_push _ 41)))); clear h1 hb1)
          | (go_at_call 86; refine (Tryd.Builder_String_any w.heap.size w.heap.size _ _ HB.out HC.out.size).mono ?_; rintro e w4 ⟨rfl, hb1⟩; have HC := hide (HC.out.trans hb1); clear hb1))
        go_ret
        exact strpost (by rw [HTX.out]; simp) (only_of_below HC.out)
end Go.Proofs.YtfmfnfmhknlpbaaDoor

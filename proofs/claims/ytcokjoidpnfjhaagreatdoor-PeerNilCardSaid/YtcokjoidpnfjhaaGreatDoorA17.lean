/-
  Walks and plain words (texts Jn, Mk0, Bh). No condition beyond those that each theorem states.
-/
import Derived.Test.YtcokjoidpnfjhaaGreatDoorA16
namespace Go.Proofs.YtcokjoidpnfjhaaGreatDoor
section
open Go.RowKit Go.Deep

theorem joinL_snoc : ∀ (l : List ByteArray) (x : ByteArray), joinL (l ++ [x]) = joinL l ++ ((if l = [] then [] else [44]) ++ x.data.toList)
  | [], x => by simp [joinL]
  | [a], x => by simp [joinL]
  | a :: b :: r, x => by
    have h := joinL_snoc (b :: r) x
    rw [if_neg (by simp)] at h ⊢
    rw [show (a :: b :: r) ++ [x] = a :: b :: (r ++ [x]) from rfl, joinL, show b :: (r ++ [x]) = (b :: r) ++ [x] from rfl, h, joinL]
    simp
theorem joinL_take (l : List ByteArray) (k : Nat) (hk : k < l.length) : joinL (l.take (k + 1)) = joinL (l.take k) ++ ((if k = 0 then [] else [44]) ++ (l.getD k ByteArray.empty).data.toList) := by
  have h : l.take (k + 1) = l.take k ++ [l.getD k ByteArray.empty] := by
    rw [List.take_succ_eq_append_getElem hk]
    simp [List.getElem?_eq_getElem hk]
  rw [h, joinL_snoc]
  congr 2
  by_cases h0 : k = 0
  · subst h0; simp
  · rw [if_neg h0, if_neg]
    intro e
    have h2 := congrArg List.length e
    rw [List.length_take, List.length_nil] at h2
    omega
theorem joinL_take_le (l : List ByteArray) (k : Nat) : k ≤ l.length → (joinL (l.take k)).length ≤ (joinL l).length := by
  have step : ∀ j, j < l.length → (joinL (l.take j)).length ≤ (joinL (l.take (j + 1))).length := by
    intro j hj
    rw [joinL_take l j hj, List.length_append]
    omega
  have all : ∀ d j, j + d = l.length → (joinL (l.take j)).length ≤ (joinL l).length := by
    intro d
    induction d with
    | zero => intro j hj; rw [List.take_of_length_le (by omega)]; exact Nat.le_refl _
    | succ d ih => intro j hj; exact Nat.le_trans (step j (by omega)) (ih (j + 1) (by omega))
  intro hk
  exact all (l.length - k) k (by omega)
/-- What stands in front of the parts. -/
def headL (k : Int) (n : Nat) : List UInt8 := [letU k] ++ [40] ++ (if numberedV k = true then Lib.decDigits n ++ [44] else [])
theorem txt_head (k : Int) (n : Nat) (b : List UInt8) (l : List ByteArray) (h5 : 5 ≤ k) (hl : numberedV k = true → l ≠ []) : txtL k n b l = headL k n ++ joinL l ++ [41] := by
  unfold txtL headL
  rw [if_neg (by omega), if_neg (by omega), if_neg (by omega)]
  cases h : numberedV k with
  | true => rw [if_pos rfl, if_pos rfl, if_neg (hl h)]; simp
  | false => rw [if_neg (by decide), if_neg (by decide)]; simp
theorem fresh_bc (w : World) : IsB w.heap.size w.heap.size (Lib.byteCells []) (w.alloc (.cells #[.pointer none, .slice none 0 0] 299)) := Lib.fresh_isBuilder _ _ _
theorem bc_bytes (bs : List UInt8) (s : ByteArray) : Lib.byteCells bs ++ Lib.strCells s = Lib.byteCells (bs ++ s.data.toList) := by simp [Lib.byteCells, Lib.strCells]
set_option maxRecDepth 100000 in
set_option maxHeartbeats 6400000 in
theorem join_leaf (k : Int) (h1 : 1 ≤ k) (h4 : k ≤ 4) (n : Nat) (hn : n < 18446744073709551616) (bv lv : Value) (b : List UInt8) (l : List ByteArray) (w : World) (hb : k = 4 → b.length ≤ 1000000 ∧ Rd w [] bv (ints .u8 (byts b))) (htab : Tab w) :
    Calls Tryz.prog 188 #[.int .u8 ((letU k).toNat : Nat), .int .i64 k, .int .u64 n, bv, lv] w (StrPost (txtL k n b l) w) := by
  have HDL := hide (dec_len n hn)
  have HB := hide (fresh_bc w)
  have HC := hide (show Below w.heap.size w (w.alloc (.cells #[.pointer none, .slice none 0 0] 299)) from below_of_only ((Only.refl [] w).alloc _) (Nat.le_refl _))
  have HT := hide htab
  have HN := hide hn
  clear htab hn
  rcases (show k = 1 ∨ k = 2 ∨ k = 3 ∨ k = 4 by omega) with rfl | rfl | rfl | rfl
  · clear hb
    go_enter Tryz.func188, Tryz.ntmps188
    go_wp2_with (first
      | (go_at_call 230; refine (write_byte w.heap.size w.heap.size _ _ _ HB.out (by rw [bc_len]; have := HDL.out; simp; try omega) HC.out.size).mono ?_; rintro e w1 ⟨rfl, h1, hb1⟩; have HC := hide (HC.out.trans hb1); (first | (have HB := hide (isb_eq h1 (bc_push _ (letU 1))))); clear h1 hb1)
      | (go_at_call 204; refine (Tryz.Builder_String_any w.heap.size w.heap.size _ _ HB.out HC.out.size).mono ?_; rintro e w4 ⟨rfl, hb1⟩; have HC := hide (HC.out.trans hb1); clear hb1))
    go_ret
    exact strpost rfl (only_of_below HC.out)
  · clear hb
    go_enter Tryz.func188, Tryz.ntmps188
    go_wp2_with (first
      | (go_at_call 230; refine (write_byte w.heap.size w.heap.size _ _ _ HB.out (by rw [bc_len]; have := HDL.out; simp; try omega) HC.out.size).mono ?_; rintro e w1 ⟨rfl, h1, hb1⟩; have HC := hide (HC.out.trans hb1); (first | (have HB := hide (isb_eq h1 (bc_push _ (letU 2))))); clear h1 hb1)
      | (go_at_call 170; refine (print_any n HN.out _ (HT.out.only (only_of_below HC.out) (by simp))).mono ?_; rintro e w2 ⟨rfl, ho⟩; have HB := hide (bd_only HB.out ho); have HC := hide (HC.out.trans (below_of_only ho HC.out.size)); clear ho)
      | (go_at_call 203; refine (write_string w.heap.size w.heap.size _ _ _ HB.out (by rw [bc_len]; have := HDL.out; simp [ByteArray.size]; try omega) HC.out.size).mono ?_; rintro e w3 ⟨rfl, h1, hb1⟩; have HC := hide (HC.out.trans hb1); have HB := hide (isb_eq h1 (bc_string _ _)); clear h1 hb1)
      | (go_at_call 204; refine (Tryz.Builder_String_any w.heap.size w.heap.size _ _ HB.out HC.out.size).mono ?_; rintro e w4 ⟨rfl, hb1⟩; have HC := hide (HC.out.trans hb1); clear hb1))
    go_ret
    exact strpost rfl (only_of_below HC.out)
  · clear hb
    go_enter Tryz.func188, Tryz.ntmps188
    go_wp2_with (first
      | (go_at_call 230; refine (write_byte w.heap.size w.heap.size _ _ _ HB.out (by rw [bc_len]; have := HDL.out; simp; try omega) HC.out.size).mono ?_; rintro e w1 ⟨rfl, h1, hb1⟩; have HC := hide (HC.out.trans hb1); (first | (have HB := hide (isb_eq h1 (bc_push _ (letU 3))))); clear h1 hb1)
      | (go_at_call 170; refine (print_any n HN.out _ (HT.out.only (only_of_below HC.out) (by simp))).mono ?_; rintro e w2 ⟨rfl, ho⟩; have HB := hide (bd_only HB.out ho); have HC := hide (HC.out.trans (below_of_only ho HC.out.size)); clear ho)
      | (go_at_call 203; refine (write_string w.heap.size w.heap.size _ _ _ HB.out (by rw [bc_len]; have := HDL.out; simp [ByteArray.size]; try omega) HC.out.size).mono ?_; rintro e w3 ⟨rfl, h1, hb1⟩; have HC := hide (HC.out.trans hb1); have HB := hide (isb_eq h1 (bc_string _ _)); clear h1 hb1)
      | (go_at_call 204; refine (Tryz.Builder_String_any w.heap.size w.heap.size _ _ HB.out HC.out.size).mono ?_; rintro e w4 ⟨rfl, hb1⟩; have HC := hide (HC.out.trans hb1); clear hb1))
    go_ret
    exact strpost rfl (only_of_below HC.out)
  · obtain ⟨hbl, hb⟩ := hb rfl
    have HXL := hide (show (hexS b).length ≤ 2000000 by rw [hexS_length]; omega)
    have HV := hide hb
    have HBL := hide hbl
    clear hb hbl
    go_enter Tryz.func188, Tryz.ntmps188
    go_wp2_with (first
      | (go_at_call 230; refine (write_byte w.heap.size w.heap.size _ _ _ HB.out (by rw [bc_len]; have := HDL.out; simp; try omega) HC.out.size).mono ?_; rintro e w1 ⟨rfl, h1, hb1⟩; have HC := hide (HC.out.trans hb1); (first | (have HB := hide (isb_eq h1 (bc_push _ (letU 4))))); clear h1 hb1)
      | (go_at_call 231; refine (num_hex _ [] _ b (HV.out.only (only_of_below HC.out) (by simp)) HBL.out).mono ?_; rintro e w2 ⟨rfl, ho⟩; have HB := hide (bd_only HB.out ho); have HC := hide (HC.out.trans (below_of_only ho HC.out.size)); clear ho)
      | (go_at_call 203; refine (write_string w.heap.size w.heap.size _ _ _ HB.out (by rw [bc_len]; have := HXL.out; simp [ByteArray.size]; try omega) HC.out.size).mono ?_; rintro e w3 ⟨rfl, h1, hb1⟩; have HC := hide (HC.out.trans hb1); have HB := hide (isb_eq h1 (bc_string _ _)); clear h1 hb1)
      | (go_at_call 204; refine (Tryz.Builder_String_any w.heap.size w.heap.size _ _ HB.out HC.out.size).mono ?_; rintro e w4 ⟨rfl, hb1⟩; have HC := hide (HC.out.trans hb1); clear hb1))
    go_ret
    exact strpost rfl (only_of_below HC.out)

set_option maxRecDepth 100000 in
set_option maxHeartbeats 6400000 in
theorem join_gen (k : Int) (h5 : 5 ≤ k) (h11 : k ≤ 11) (h6 : k ≠ 6) (n : Nat) (hn : n < 18446744073709551616) (bv lv : Value) (b : List UInt8) (l : List ByteArray) (hl : numberedV k = true → l ≠ []) (hll : (joinL l).length ≤ 1000000) (w : World) (hv : Rd w [] lv (strs l)) (htab : Tab w) :
    Calls Tryz.prog 188 #[.int .u8 ((letU k).toNat : Nat), .int .i64 k, .int .u64 n, bv, lv] w (StrPost (txtL k n b l) w) := by
  have HDL := hide (dec_len n hn)
  have HTX := hide (txt_head k n b l h5 hl)
  have HHL := hide (show (headL k n).length ≤ 30 by unfold headL; have := dec_len n hn; simp only [List.length_append, List.length_singleton]; split <;> simp <;> omega)
  obtain ⟨A, cap, rfl, hc1, hc2⟩ := hv.form
  unfold maxLen at hc2
  rw [strs_length] at hv hc1 ⊢
  obtain ⟨m, hm⟩ : ∃ m, m = l.length := ⟨_, rfl⟩
  have HM := hide hm
  rw [← hm] at hv hc1 ⊢
  have HB := hide (fresh_bc w)
  have HC := hide (show Below w.heap.size w (w.alloc (.cells #[.pointer none, .slice none 0 0] 299)) from below_of_only ((Only.refl [] w).alloc _) (Nat.le_refl _))
  have HT := hide htab
  have HN := hide hn
  have HV := hide hv
  have HLL := hide hll
  have t1 : (k == 1) = false := by rw [beq_eq_false_iff_ne]; omega
  have t2 : (k == 2) = false := by rw [beq_eq_false_iff_ne]; omega
  have t3 : (k == 3) = false := by rw [beq_eq_false_iff_ne]; omega
  have t4 : (k == 4) = false := by rw [beq_eq_false_iff_ne]; omega
  have t6 : (k == 6) = false := by rw [beq_eq_false_iff_ne]; omega
  clear htab hn hv hl hll hm h5 h11 h6
  cases hnb : numberedV k with
  | false =>
    have HNB := hide hnb
    have HHD := hide (show headL k n = [letU k] ++ [40] by unfold headL; rw [hnb]; simp)
    clear hnb
    go_enter Tryz.func188, Tryz.ntmps188
    go_wp2_with (first
      | (go_at_call 230; refine (write_byte w.heap.size w.heap.size _ _ _ HB.out (by rw [bc_len]; have := HDL.out; simp; try omega) HC.out.size).mono ?_; rintro e w1 ⟨rfl, h1, hb1⟩; have HC := hide (HC.out.trans hb1); (first | (have HB := hide (isb_eq h1 (bc_push _ (letU k)))) | (have HB := hide (isb_eq h1 (bc_push _ 40)))); clear h1 hb1)
      | (go_at_call 185; refine (numbered_any _ _).mono ?_; rintro e w' ⟨rfl, rfl⟩; rw [HNB.out]))
    go_quiet (fail)
    go_wp2_with fail
    have HB := hide (isb_eq (bd_only HB.out ((Only.refl [] _).drewN nq)) (show _ = Lib.byteCells (headL k n ++ joinL (l.take 0)) by rw [HHD.out]; simp [joinL]))
    have HC := hide (below_drewN HC.out nq)
    go_loopw [60] (fun i wr => ∃ j : Nat, j ≤ m ∧ i = .int .i64 j ∧ Hid (IsB w.heap.size w.heap.size (Lib.byteCells (headL k n ++ joinL (l.take j))) wr) ∧ Hid (Below w.heap.size w wr)) (fun i _ => m - (intOf i).toNat)
    case atStart => exact ⟨0, Nat.zero_le _, rfl, HB, HC⟩
    case round =>
      clear HB HC
      obtain ⟨j, hj, rfl, HB, HC⟩ := hrel
      by_cases hlt : j < m
      · have hltI : (j : Int) < m := by omega
        have hjl : j < l.length := by rw [← HM.out]; exact hlt
        have HJ := hide (joinL_take l j hjl)
        have HL1 := hide (show (joinL (l.take j)).length ≤ 1000000 from Nat.le_trans (joinL_take_le l j (Nat.le_of_lt hjl)) HLL.out)
        obtain ⟨g, o, rfl, _, hg, hcell⟩ := (HV.out.only (only_of_below HC.out) (by simp)).at_.2.2.2 j (.string (l.getD j ByteArray.empty)) (by simp [strs, List.getElem?_eq_getElem hjl])
        have HL2 := hide (show (l.getD j ByteArray.empty).size ≤ 1000000 from Nat.le_trans (join_mem l _ (by rw [List.getD_eq_getElem?_getD, List.getElem?_eq_getElem hjl]; exact List.getElem_mem hjl)) HLL.out)
        generalize l.getD j ByteArray.empty = part at *
        by_cases h0 : j = 0
        · have hzero : ¬ (0 : Int) < j := by omega
          have HK0 := hide h0
          clear h0 hjl
          go_wp2_with (first
            | (go_at_call 203; refine (write_string w.heap.size w.heap.size _ _ _ HB.out (by rw [bc_len]; have := HL1.out; have := HL2.out; have := HHL.out; simp only [List.length_append]; omega) HC.out.size).mono ?_; rintro e w3 ⟨rfl, h1, hb1⟩; have HC := hide (HC.out.trans hb1); have HB := hide (isb_eq h1 (bc_bytes _ _)); clear h1 hb1))
          go_roundw
          case rel => exact ⟨j + 1, by omega, by go_num, hide (isb_eq HB.out (by rw [HJ.out, if_pos HK0.out]; simp)), HC⟩
          case measure => simp [intOf]; omega
        · have hpos : (0 : Int) < j := by omega
          have HK0 := hide h0
          clear h0 hjl
          go_wp2_with (first
            | (go_at_call 230; refine (write_byte w.heap.size w.heap.size _ _ _ HB.out (by rw [bc_len]; have := HL1.out; have := HL2.out; have := HHL.out; simp only [List.length_append]; omega) HC.out.size).mono ?_; rintro e w1 ⟨rfl, h1, hb1⟩; have HC := hide (HC.out.trans hb1); (first | (have HB := hide (isb_eq h1 (bc_push _ 44)))); clear h1 hb1)
            | (go_at_call 203; refine (write_string w.heap.size w.heap.size _ _ _ HB.out (by rw [bc_len]; have := HL1.out; have := HL2.out; have := HHL.out; simp only [List.length_append, List.length_cons, List.length_nil]; omega) HC.out.size).mono ?_; rintro e w3 ⟨rfl, h1, hb1⟩; have HC := hide (HC.out.trans hb1); have HB := hide (isb_eq h1 (bc_bytes _ _)); clear h1 hb1))
          go_roundw
          case rel => exact ⟨j + 1, by omega, by go_num, hide (isb_eq HB.out (by rw [HJ.out, if_neg HK0.out]; simp)), HC⟩
          case measure => simp [intOf]; omega
      · have hge : ¬ (j : Int) < m := by omega
        have HB := hide (isb_eq HB.out (show _ = Lib.byteCells (headL k n ++ joinL l) by rw [List.take_of_length_le (by have := HM.out; omega)]))
        have HL1 := HLL
        go_wp2_with (first
          | (go_at_call 230; refine (write_byte w.heap.size w.heap.size _ _ _ HB.out (by rw [bc_len]; have := HL1.out; have := HHL.out; simp only [List.length_append]; omega) HC.out.size).mono ?_; rintro e w1 ⟨rfl, h1, hb1⟩; have HC := hide (HC.out.trans hb1); (first | (have HB := hide (isb_eq h1 (bc_push _ 41)))); clear h1 hb1)
          | (go_at_call 204; refine (Tryz.Builder_String_any w.heap.size w.heap.size _ _ HB.out HC.out.size).mono ?_; rintro e w4 ⟨rfl, hb1⟩; have HC := hide (HC.out.trans hb1); clear hb1))
        go_ret
        exact strpost (by rw [HTX.out]; simp) (only_of_below HC.out)
  | true =>
    have HNB := hide hnb
    have HHD := hide (show headL k n = [letU k] ++ [40] ++ (Lib.decDigits n ++ [44]) by unfold headL; rw [hnb]; simp)
    clear hnb
    go_enter Tryz.func188, Tryz.ntmps188
    go_wp2_with (first
      | (go_at_call 230; refine (write_byte w.heap.size w.heap.size _ _ _ HB.out (by rw [bc_len]; have := HDL.out; simp; try omega) HC.out.size).mono ?_; rintro e w1 ⟨rfl, h1, hb1⟩; have HC := hide (HC.out.trans hb1); (first | (have HB := hide (isb_eq h1 (bc_push _ (letU k)))) | (have HB := hide (isb_eq h1 (bc_push _ 40))) | (have HB := hide (isb_eq h1 (bc_push _ 44)))); clear h1 hb1)
      | (go_at_call 185; refine (numbered_any _ _).mono ?_; rintro e w' ⟨rfl, rfl⟩; rw [HNB.out])
      | (go_at_call 170; refine (print_any n HN.out _ (HT.out.only (only_of_below HC.out) (by simp))).mono ?_; rintro e w2 ⟨rfl, ho⟩; have HB := hide (bd_only HB.out ho); have HC := hide (HC.out.trans (below_of_only ho HC.out.size)); clear ho)
      | (go_at_call 203; refine (write_string w.heap.size w.heap.size _ _ _ HB.out (by rw [bc_len]; have := HDL.out; simp [ByteArray.size]; try omega) HC.out.size).mono ?_; rintro e w3 ⟨rfl, h1, hb1⟩; have HC := hide (HC.out.trans hb1); have HB := hide (isb_eq h1 (bc_string _ _)); clear h1 hb1))
    go_quiet (fail)
    go_wp2_with fail
    have HB := hide (isb_eq (bd_only HB.out ((Only.refl [] _).drewN nq)) (show _ = Lib.byteCells (headL k n ++ joinL (l.take 0)) by rw [HHD.out]; simp [joinL]))
    have HC := hide (below_drewN HC.out nq)
    go_loopw [60] (fun i wr => ∃ j : Nat, j ≤ m ∧ i = .int .i64 j ∧ Hid (IsB w.heap.size w.heap.size (Lib.byteCells (headL k n ++ joinL (l.take j))) wr) ∧ Hid (Below w.heap.size w wr)) (fun i _ => m - (intOf i).toNat)
    case atStart => exact ⟨0, Nat.zero_le _, rfl, HB, HC⟩
    case round =>
      clear HB HC
      obtain ⟨j, hj, rfl, HB, HC⟩ := hrel
      by_cases hlt : j < m
      · have hltI : (j : Int) < m := by omega
        have hjl : j < l.length := by rw [← HM.out]; exact hlt
        have HJ := hide (joinL_take l j hjl)
        have HL1 := hide (show (joinL (l.take j)).length ≤ 1000000 from Nat.le_trans (joinL_take_le l j (Nat.le_of_lt hjl)) HLL.out)
        obtain ⟨g, o, rfl, _, hg, hcell⟩ := (HV.out.only (only_of_below HC.out) (by simp)).at_.2.2.2 j (.string (l.getD j ByteArray.empty)) (by simp [strs, List.getElem?_eq_getElem hjl])
        have HL2 := hide (show (l.getD j ByteArray.empty).size ≤ 1000000 from Nat.le_trans (join_mem l _ (by rw [List.getD_eq_getElem?_getD, List.getElem?_eq_getElem hjl]; exact List.getElem_mem hjl)) HLL.out)
        generalize l.getD j ByteArray.empty = part at *
        by_cases h0 : j = 0
        · have hzero : ¬ (0 : Int) < j := by omega
          have HK0 := hide h0
          clear h0 hjl
          go_wp2_with (first
            | (go_at_call 203; refine (write_string w.heap.size w.heap.size _ _ _ HB.out (by rw [bc_len]; have := HL1.out; have := HL2.out; have := HHL.out; simp only [List.length_append]; omega) HC.out.size).mono ?_; rintro e w3 ⟨rfl, h1, hb1⟩; have HC := hide (HC.out.trans hb1); have HB := hide (isb_eq h1 (bc_bytes _ _)); clear h1 hb1))
          go_roundw
          case rel => exact ⟨j + 1, by omega, by go_num, hide (isb_eq HB.out (by rw [HJ.out, if_pos HK0.out]; simp)), HC⟩
          case measure => simp [intOf]; omega
        · have hpos : (0 : Int) < j := by omega
          have HK0 := hide h0
          clear h0 hjl
          go_wp2_with (first
            | (go_at_call 230; refine (write_byte w.heap.size w.heap.size _ _ _ HB.out (by rw [bc_len]; have := HL1.out; have := HL2.out; have := HHL.out; simp only [List.length_append]; omega) HC.out.size).mono ?_; rintro e w1 ⟨rfl, h1, hb1⟩; have HC := hide (HC.out.trans hb1); (first | (have HB := hide (isb_eq h1 (bc_push _ 44)))); clear h1 hb1)
            | (go_at_call 203; refine (write_string w.heap.size w.heap.size _ _ _ HB.out (by rw [bc_len]; have := HL1.out; have := HL2.out; have := HHL.out; simp only [List.length_append, List.length_cons, List.length_nil]; omega) HC.out.size).mono ?_; rintro e w3 ⟨rfl, h1, hb1⟩; have HC := hide (HC.out.trans hb1); have HB := hide (isb_eq h1 (bc_bytes _ _)); clear h1 hb1))
          go_roundw
          case rel => exact ⟨j + 1, by omega, by go_num, hide (isb_eq HB.out (by rw [HJ.out, if_neg HK0.out]; simp)), HC⟩
          case measure => simp [intOf]; omega
      · have hge : ¬ (j : Int) < m := by omega
        have HB := hide (isb_eq HB.out (show _ = Lib.byteCells (headL k n ++ joinL l) by rw [List.take_of_length_le (by have := HM.out; omega)]))
        have HL1 := HLL
        go_wp2_with (first
          | (go_at_call 230; refine (write_byte w.heap.size w.heap.size _ _ _ HB.out (by rw [bc_len]; have := HL1.out; have := HHL.out; simp only [List.length_append]; omega) HC.out.size).mono ?_; rintro e w1 ⟨rfl, h1, hb1⟩; have HC := hide (HC.out.trans hb1); (first | (have HB := hide (isb_eq h1 (bc_push _ 41)))); clear h1 hb1)
          | (go_at_call 204; refine (Tryz.Builder_String_any w.heap.size w.heap.size _ _ HB.out HC.out.size).mono ?_; rintro e w4 ⟨rfl, hb1⟩; have HC := hide (HC.out.trans hb1); clear hb1))
        go_ret
        exact strpost (by rw [HTX.out]; simp) (only_of_below HC.out)
end
section
open Go.RowKit Go.Deep Go.Maps Go.WideMaps

theorem letD_at (k : Int) : letD.atKey (.int .i64 k) (.lit (.int .u8 0)) = .lit (.int .u8 ((letU k).toNat : Nat)) := by
  by_cases h : 1 ≤ k ∧ k ≤ 11
  · obtain ⟨h1, h2⟩ := h
    rcases (show k = 1 ∨ k = 2 ∨ k = 3 ∨ k = 4 ∨ k = 5 ∨ k = 6 ∨ k = 7 ∨ k = 8 ∨ k = 9 ∨ k = 10 ∨ k = 11 by omega) with rfl | rfl | rfl | rfl | rfl | rfl | rfl | rfl | rfl | rfl | rfl
    all_goals rfl
  · have e : letD = DataW.map (letL.map fun p => (Lit.int .i64 p.1, DataW.lit (.int .u8 p.2))) := by rfl
    have h0 : letU k = 0 := by
      unfold letU
      repeat rw [if_neg (by omega)]
    rw [e, h0]
    refine Go.WideAt.atKey_none _ fun p hp => ?_
    obtain ⟨q, hq, rfl⟩ := List.mem_map.1 hp
    intro e2
    injection e2 with _ e3
    apply h
    simp only [letL, List.mem_cons, List.not_mem_nil, or_false] at hq
    rcases hq with rfl | rfl | rfl | rfl | rfl | rfl | rfl | rfl | rfl | rfl | rfl
    all_goals (simp only at e3; omega)
theorem letter_of (k : Int) (hk : (Lit.int .i64 k).wf = true) (w : World) : Calls Tryz.prog 184 #[.int .i64 k] w fun e w' => e = .returned (.int .u8 ((letU k).toNat : Nat)) ∧ Only [] w w' :=
  (letter_any k hk w).mono fun e w' ⟨c, he, hat, ho⟩ => by
    rw [letD_at] at hat
    injection hat with h3
    injection h3 with _ h4
    rw [← h4] at he
    exact ⟨he, ho⟩
theorem let_zero {k : Int} (h : ¬ (1 ≤ k ∧ k ≤ 11)) : letU k = 0 := by
  unfold letU
  repeat rw [if_neg (by omega)]
theorem let_pos {k : Int} (h : 1 ≤ k ∧ k ≤ 11) : (((letU k).toNat : Nat) : Int) ≠ 0 := by
  obtain ⟨h1, h2⟩ := h
  rcases (show k = 1 ∨ k = 2 ∨ k = 3 ∨ k = 4 ∨ k = 5 ∨ k = 6 ∨ k = 7 ∨ k = 8 ∨ k = 9 ∨ k = 10 ∨ k = 11 by omega) with rfl | rfl | rfl | rfl | rfl | rfl | rfl | rfl | rfl | rfl | rfl
  all_goals decide
theorem kind_zero (p : ByteArray) : kindT p = 0 ↔ (parseV p).isSome = false := by
  unfold kindT
  cases h : parseV p with
  | none => simp
  | some nd =>
    obtain ⟨k, n, b, l⟩ := nd
    have := (read_make h).2.1
    simp
    omega
/-- The parts' lengths, one more for each. -/
def sumL : List ByteArray → Nat
  | [] => 0
  | a :: r => a.size + 1 + sumL r
theorem sumL_snoc (l : List ByteArray) (x : ByteArray) : sumL (l ++ [x]) = sumL l + (x.size + 1) := by
  induction l with
  | nil => simp [sumL]
  | cons a r ih => rw [List.cons_append, sumL, sumL, ih]; omega
theorem sumL_take (l : List ByteArray) (k : Nat) (hk : k < l.length) : sumL (l.take (k + 1)) = sumL (l.take k) + ((l.getD k ByteArray.empty).size + 1) := by
  have h : l.take (k + 1) = l.take k ++ [l.getD k ByteArray.empty] := by
    rw [List.take_succ_eq_append_getElem hk]
    simp [List.getElem?_eq_getElem hk]
  rw [h, sumL_snoc]
theorem sumL_mono (l : List ByteArray) (k : Nat) : sumL (l.take k) ≤ sumL l := by
  induction l generalizing k with
  | nil => simp
  | cons a r ih =>
    cases k with
    | zero => simp [sumL]
    | succ k => rw [List.take_succ_cons, sumL, sumL]; have := ih k; omega
theorem join_sum : ∀ l : List ByteArray, l ≠ [] → (joinL l).length + 1 = sumL l
  | [], h => absurd rfl h
  | [a], _ => by rw [joinL, sumL, sumL]; rfl
  | a :: b :: r, _ => by
    have h := join_sum (b :: r) (by simp)
    rw [joinL, sumL, List.length_append, List.length_cons, ← h]
    show a.size + _ + 1 = _
    omega
theorem join_le (l : List ByteArray) : (joinL l).length ≤ sumL l := by
  by_cases h : l = []
  · subst h; simp [joinL]
  · have := join_sum l h; omega
theorem sum_le (l : List ByteArray) : sumL l ≤ (joinL l).length + 1 := by
  by_cases h : l = []
  · subst h; simp [sumL]
  · have := join_sum l h; omega
theorem size_le (l : List ByteArray) (j : Nat) (hj : j < l.length) : (l.getD j ByteArray.empty).size ≤ sumL l := by
  have h := sumL_take l j hj
  have h2 := sumL_mono l (j + 1)
  omega
theorem sum_sort (k : Int) (l : List ByteArray) : sumL (sortV k l) = sumL l := by
  unfold sortV
  split
  · rename_i h
    obtain ⟨_, h2, _⟩ := h
    match l, h2 with
    | [a, b], _ => simp [sumL]; omega
  · rfl
section no
variable {k : Int} {n : Nat} {b : List UInt8} {l : List ByteArray}
theorem make_no (h : ¬ (1 ≤ k ∧ k ≤ 11 ∧ (numberedV k = true → allowedV k n = true) ∧ fitsV k l.length = true ∧ (∀ p ∈ l, (parseV p).isSome = true) ∧ (txtL k n b (sortV k l)).length ≤ 65536)) : makeV k n b l = ByteArray.empty := by
  unfold makeV; rw [if_neg h]
theorem make_kind (h : ¬ (1 ≤ k ∧ k ≤ 11)) : makeV k n b l = ByteArray.empty := make_no (by rintro ⟨h1, h2, _⟩; exact h ⟨h1, h2⟩)
theorem make_allow (h1 : numberedV k = true) (h2 : allowedV k n = false) : makeV k n b l = ByteArray.empty := make_no (by rintro ⟨_, _, h, _⟩; rw [h h1] at h2; cases h2)
theorem make_fits (h1 : fitsV k l.length = false) : makeV k n b l = ByteArray.empty := make_no (by rintro ⟨_, _, _, h, _⟩; rw [h] at h1; cases h1)
theorem make_big (h : 65536 < sumL l) : makeV k n b l = ByteArray.empty := make_no (by
  rintro ⟨h1, h11, _, hf, _, ht⟩
  by_cases hk : k ≤ 4
  · have hl := (fits4 h1 hk l).1 hf
    subst hl
    simp [sumL] at h
  · have h1 := txt_len5 k n b (sortV k l) (by omega)
    have h2 := sum_le (sortV k l)
    rw [sum_sort] at h2
    omega)
theorem make_data (hk : k = 4) (h : 65536 < b.length) : makeV k n b l = ByteArray.empty := make_no (by
  rintro ⟨_, _, _, _, _, ht⟩
  subst hk
  unfold txtL at ht
  rw [if_neg (by omega), if_pos rfl, List.length_cons, hexS_length] at ht
  omega)
theorem make_part {j : Nat} (hj : j < l.length) (h : kindT (l.getD j ByteArray.empty) = 0) : makeV k n b l = ByteArray.empty := make_no (by
  rintro ⟨_, _, _, _, hp, _⟩
  have := hp (l.getD j ByteArray.empty) (by rw [List.getD_eq_getElem?_getD, List.getElem?_eq_getElem hj]; exact List.getElem_mem hj)
  rw [(kind_zero _).1 h] at this
  exact Bool.noConfusion this)
theorem make_long (h : 65536 < (txtL k n b (sortV k l)).length) : makeV k n b l = ByteArray.empty := make_no (by rintro ⟨_, _, _, _, _, ht⟩; omega)
theorem make_is (h1 : 1 ≤ k ∧ k ≤ 11) (h2 : numberedV k = true → allowedV k n = true) (h3 : fitsV k l.length = true) (h4 : ∀ j, j < l.length → kindT (l.getD j ByteArray.empty) ≠ 0) (h5 : (txtL k n b (sortV k l)).length ≤ 65536) :
    makeV k n b l = bytesOf (txtL k n b (sortV k l)) := by
  unfold makeV
  refine if_pos ⟨h1.1, h1.2, h2, h3, fun p hp => ?_, h5⟩
  obtain ⟨j, hj, rfl⟩ := List.mem_iff_getElem.1 hp
  have h := h4 j hj
  rw [List.getD_eq_getElem?_getD, List.getElem?_eq_getElem hj, Option.getD_some] at h
  cases h' : (parseV l[j]).isSome with
  | true => rfl
  | false => exact absurd ((kind_zero _).2 h') h
end no
end
section
open Go.RowKit Go.Deep

/-- Blocks of other types than the Builder's own are kept. -/
def Held (w w' : World) : Prop := ∀ (g : Nat) (t : TypeId) (cs : Array Value), t ≠ 5 → t ≠ 299 → Blk w g t cs → Blk w' g t cs
theorem held_refl (w : World) : Held w w := fun _ _ _ _ _ h => h
theorem Held.trans {a b c : World} (h : Held a b) (k : Held b c) : Held a c := fun g t cs h1 h2 hb => k g t cs h1 h2 (h g t cs h1 h2 hb)
theorem held_alloc (w : World) (o : Obj) : Held w (w.alloc o) := fun _ _ _ _ _ h => h.alloc o
theorem held_set {w : World} {b : Nat} {cs : Array Value} (h : w.heap[b]? = some (.cells cs 299 (0, 0))) (i : Nat) (u : Value) : Held w (w.setCell ⟨b, i, none⟩ u) := by
  intro g t cs' _ h2 hb
  refine hb.far (p := ⟨b, i, none⟩) ?_ u
  intro e
  simp only at e
  subst e
  unfold Blk at hb
  rw [h] at hb
  simp at hb
  exact h2 hb.2.symm
theorem held_grown {w w' : World} {B n : Nat} {v : Value} {xs : List Value} (ho : w.ownsRow B 5 1 v n xs) (hg : w.grownBy w' v.ownBlock) : Held w w' := by
  intro g t cs h1 _ hb
  refine hb.grown hg ?_
  intro e
  rcases ho.2 with ⟨hv, _⟩ | ⟨g', cap, cur, hv, _, hh, _⟩
  · rw [hv] at e; cases e
  · rw [hv] at e
    simp [Value.ownBlock] at e
    subst e
    unfold Blk at hb
    rw [hh] at hb
    simp at hb
    exact h1 hb.2.symm

theorem bd_check3 (B b : Nat) (bs : List Value) (w : World) (h : Lib.IsBuilder 299 5 B b bs w) :
    Calls Tryz.prog 236 #[.pointer (some ⟨b, 0, none⟩)] w fun e w' => e = .returned (.tuple #[]) ∧ (Lib.BuilderAt 299 5 B b (.pointer (some ⟨b, 0, none⟩)) bs w' ∧ Below B w w' ∧ Held w w') := by
  rcases h with h | h
  · refine (bd_check_fresh b w h.cell0 h.shape h.frozen0).mono ?_
    rintro e w' ⟨rfl, rfl⟩
    obtain ⟨_, v, hbk, _, _⟩ := id h
    exact ⟨rfl, h.used _, (Below.refl B w).setCell (p := ⟨b, 0, none⟩) h.1 _, held_set hbk 0 _⟩
  · refine (bd_check_used b w h.cell0).mono ?_
    rintro e w' ⟨rfl, rfl⟩
    exact ⟨rfl, h, Below.refl B _, held_refl _⟩


set_option maxRecDepth 100000 in
set_option maxHeartbeats 2000000 in
theorem write_byte3 (B b : Nat) (bs : List Value) (c : Int) (w : World) (h : Lib.IsBuilder 299 5 B b bs w) (hlen : bs.length + 1 ≤ 140737488355328) (hBw : B ≤ w.heap.size) :
    Calls Tryz.prog 230 #[.pointer (some ⟨b, 0, none⟩), .int .u8 c] w fun e w' => e = .returned .nilIface ∧ (Lib.IsBuilder 299 5 B b (bs ++ [.int .u8 c]) w' ∧ Below B w w' ∧ Held w w') := by
  obtain ⟨i0, hi, hz0, hz1, hz2⟩ := info_parts (show (Tryz.prog.info? 5).map (fun i => (i.zero, i.size, i.bytes)) = some (some (.int .u8 0), 1, 1) by kernel_rfl)
  go_enter Tryz.func230, Tryz.ntmps230
  go_wp2_with (go_at_call 236; refine (bd_check3 B b bs _ h).mono ?_)
  rintro e w1 ⟨rfl, h1, hb1, hh1⟩
  obtain ⟨hB, v, hbk, hown, hne⟩ := h1
  have c0 : w1.cell? ⟨b, 0, none⟩ = some (.pointer (some ⟨b, 0, none⟩)) := by rw [Lib.cell_of_heap hbk]; rfl
  have c1 : w1.cell? ⟨b, 1, none⟩ = some v := by rw [Lib.cell_of_heap hbk]; rfl
  go_wp2_with (at_builtin; refine wpList_append_own _ rfl _ _ 37 rfl B 5 i0 (.int .u8 0) 1 1 Tryz.underlying37 hi hz0 hz1 hz2 rfl (by decide) _ _ _ rfl (hown.alloc _) ⟨w1.heap.size, 0, none⟩ 1 1 [.int .u8 c] rfl rfl ?c1 ?c2 ?c3 ?c4 ?c5 ?_)
  case c1 =>
    intro j u hj
    match j, hj with
    | 0, hj => simp at hj; subst hj; simp [Addr.add]
  case c2 => intro u hu; simp at hu; subst hu; rfl
  case c3 => unfold maxLen; omega
  case c4 => omega
  case c5 => have := hb1.size; simp; omega
  intro v' w2 hown' hgrow _
  have hlt : b < w1.heap.size := bd_lt hbk
  have hb2 : w2.heap[b]? = some (.cells #[.pointer (some ⟨b, 0, none⟩), v] 299 (0, 0)) := by
    rw [hgrow.block b (by simp; omega) (fun e => hne e.symm), Lib.alloc_old w1 _ b hlt]
    exact hbk
  have d0 : w2.cell? ⟨b, 0, none⟩ = some (.pointer (some ⟨b, 0, none⟩)) := by rw [Lib.cell_of_heap hb2]; rfl
  have d1 : w2.cell? ⟨b, 1, none⟩ = some v := by rw [Lib.cell_of_heap hb2]; rfl
  have f1 : w2.frozen? ⟨b, 1, none⟩ = false := Lib.frozen_of_heap hb2 1
  obtain ⟨g, cap, rfl⟩ : ∃ g cap, v' = .slice (some ⟨g, 0, none⟩) (bs.length + 1) cap := by
    rcases hown'.2 with ⟨_, h0⟩ | ⟨g, cap, cur, hv, _⟩
    · omega
    · exact ⟨g, cap, hv⟩
  go_wp2
  go_ret
  refine ⟨rfl, ?_, ?_, ?_⟩
  · exact .inr (Lib.BuilderAt.put (T := 299) (e := 5) hB hb2 (bs' := bs ++ [.int .u8 c]) (by simpa using hown') (by decide))
  · exact ((hb1.alloc (by have := hb1.size; omega) _).grown hgrow (by have := hb1.size; simp; omega) (fun k hk => (hown.lt k hk).1)).setCell (p := ⟨b, 1, none⟩) hB _
  · exact hh1.trans ((held_alloc w1 _).trans ((held_grown (hown.alloc _) hgrow).trans (held_set hb2 1 _)))

set_option maxRecDepth 100000 in
set_option maxHeartbeats 2000000 in
theorem write_string3 (B b : Nat) (bs : List Value) (s : ByteArray) (w : World) (h : Lib.IsBuilder 299 5 B b bs w) (hlen : bs.length + s.size ≤ 140737488355328) (hBw : B ≤ w.heap.size) :
    Calls Tryz.prog 203 #[.pointer (some ⟨b, 0, none⟩), .string s] w fun e w' => e = .returned (.tuple #[.int .i64 s.size, .nilIface]) ∧ (Lib.IsBuilder 299 5 B b (bs ++ Lib.strCells s) w' ∧ Below B w w' ∧ Held w w') := by
  obtain ⟨i0, hi, hz0, hz1, hz2⟩ := info_parts (show (Tryz.prog.info? 5).map (fun i => (i.zero, i.size, i.bytes)) = some (some (.int .u8 0), 1, 1) by kernel_rfl)
  go_enter Tryz.func203, Tryz.ntmps203
  go_wp2_with (go_at_call 236; refine (bd_check3 B b bs _ h).mono ?_)
  rintro e w1 ⟨rfl, h1, hb1, hh1⟩
  obtain ⟨hB, v, hbk, hown, hne⟩ := h1
  have c0 : w1.cell? ⟨b, 0, none⟩ = some (.pointer (some ⟨b, 0, none⟩)) := by rw [Lib.cell_of_heap hbk]; rfl
  have c1 : w1.cell? ⟨b, 1, none⟩ = some v := by rw [Lib.cell_of_heap hbk]; rfl
  go_wp2_with (at_builtin; refine Lib.wpList_append_own_string _ rfl _ _ 37 9 rfl B 5 i0 Tryz.underlying37 Tryz.underlying9 hi hz0 hz1 hz2 _ _ _ rfl hown s rfl ?c3 ?c4 ?c5 ?_)
  case c3 => unfold maxLen; omega
  case c4 => omega
  case c5 => have := hb1.size; omega
  intro v' w2 hown' hgrow _
  have hlt : b < w1.heap.size := bd_lt hbk
  have hb2 : w2.heap[b]? = some (.cells #[.pointer (some ⟨b, 0, none⟩), v] 299 (0, 0)) := by
    rw [hgrow.block b hlt (fun e => hne e.symm)]
    exact hbk
  have d0 : w2.cell? ⟨b, 0, none⟩ = some (.pointer (some ⟨b, 0, none⟩)) := by rw [Lib.cell_of_heap hb2]; rfl
  have d1 : w2.cell? ⟨b, 1, none⟩ = some v := by rw [Lib.cell_of_heap hb2]; rfl
  have f1 : w2.frozen? ⟨b, 1, none⟩ = false := Lib.frozen_of_heap hb2 1
  obtain ⟨ao, n', cap, rfl⟩ : ∃ ao n' cap, v' = .slice ao n' cap := by
    rcases hown'.2 with ⟨hv, _⟩ | ⟨g, cap, cur, hv, _⟩
    · exact ⟨_, _, _, hv⟩
    · exact ⟨_, _, _, hv⟩
  go_wp2
  go_ret2
  refine ⟨rfl, ?_, ?_, ?_⟩
  · exact .inr (Lib.BuilderAt.put (T := 299) (e := 5) hB hb2 (bs' := bs ++ Lib.strCells s) (by simpa [Lib.strCells_length] using hown') (by decide))
  · exact (hb1.grown hgrow (by have := hb1.size; omega) (fun k hk => (hown.lt k hk).1)).setCell (p := ⟨b, 1, none⟩) hB _
  · exact hh1.trans ((held_grown hown hgrow).trans (held_set hb2 1 _))
end
end Go.Proofs.YtcokjoidpnfjhaaGreatDoor

/-
  Walks and plain words (texts Rm). No condition beyond those that each theorem states.
-/
import Derived.Test.YtfipdjlalfpbnaaGreatDoorM20
import Derived.Test.YtfipdjlalfpbnaaGreatDoorM22
namespace Go.Proofs.YtfipdjlalfpbnaaGreatDoor
section
open Go.RowKit Go.Deep

theorem cat_bytes (a b : List UInt8) : bytesOf a ++ bytesOf b = bytesOf (a ++ b) := by
  apply ByteArray.ext
  rw [ByteArray.data_append]
  show a.toArray ++ b.toArray = (a ++ b).toArray
  simp
/-- What stands ahead of the parts, as the reference writes it. -/
def headR (k : Int) (n : Nat) (l : List ByteArray) : List UInt8 := letU k :: 40 :: (if numberedV k = true then Lib.decDigits n ++ (if l = [] then [] else [44]) else [])
theorem txt_headR (k : Int) (n : Nat) (b : List UInt8) (l : List ByteArray) (h5 : 5 ≤ k) : txtL k n b l = headR k n l ++ joinL l ++ [41] := by
  unfold txtL headR
  rw [if_neg (by omega), if_neg (by omega), if_neg (by omega)]
  simp
theorem headR_len (k : Int) (n : Nat) (hn : n < 18446744073709551616) (l : List ByteArray) : (headR k n l).length ≤ 40 := by
  unfold headR
  have := dec_len n hn
  split
  · split <;> simp <;> omega
  · simp
theorem part_size {p : ByteArray} (h : (parseV p).isSome = true) : p.size ≤ 65536 := by
  obtain ⟨nd, h⟩ := Option.isSome_iff_exists.1 h
  exact parse_size h
theorem joinL_bound (l : List ByteArray) (j : Nat) : (∀ i, i < j → (parseV (l.getD i ByteArray.empty)).isSome = true) → j ≤ l.length → (joinL (l.take j)).length ≤ j * 65537 := by
  induction j with
  | zero => intro _ _; simp [joinL]
  | succ j ih =>
    intro h hj
    rw [joinL_take l j (by omega)]
    have h1 := ih (fun i hi => h i (by omega)) (by omega)
    have h2 := part_size (h j (by omega))
    rw [List.length_append, List.length_append]
    have h3 : (l.getD j ByteArray.empty).data.toList.length = (l.getD j ByteArray.empty).size := rfl
    have h4 : (if j = 0 then ([] : List UInt8) else [44]).length ≤ 1 := by split <;> simp
    omega
section plain
variable {k : Int} {n : Nat} {b : List UInt8} {l : List ByteArray}
theorem all_sort (hp : ∀ i, i < (sortV k l).length → (parseV ((sortV k l).getD i ByteArray.empty)).isSome = true) : ∀ p ∈ sortV k l, (parseV p).isSome = true := by
  intro p hp2
  obtain ⟨j, hj, rfl⟩ := List.mem_iff_getElem.1 hp2
  have h := hp j hj
  rwa [List.getD_eq_getElem?_getD, List.getElem?_eq_getElem hj, Option.getD_some] at h
theorem makeR_yes (h : 1 ≤ k ∧ k ≤ 11) (hn : n < 18446744073709551616) (h4 : k ≤ 4 → l = []) (hp : ∀ i, i < (sortV k l).length → (parseV ((sortV k l).getD i ByteArray.empty)).isSome = true)
    (hs : (parseV (bytesOf (txtL k n b (sortV k l)))).isSome = true) : makeV k n b l = bytesOf (txtL k n b (sortV k l)) := by
  have hall := all_sort hp
  rw [parse_txt k n b (sortV k l) h.1 h.2 hn hall (fun hk => by rw [h4 hk]; exact sort_not6 (by omega) [])] at hs
  by_cases hok : okV k n (sortV k l) ∧ (txtL k n b (sortV k l)).length ≤ 65536
  · exact if_pos ⟨h.1, h.2, hok.1.1, by rw [← sort_len k l]; exact hok.1.2.1, fun p hp2 => hall p ((sort_mem k l p).2 hp2), hok.2⟩
  · rw [if_neg hok] at hs; cases hs
theorem makeR_no (h : 1 ≤ k ∧ k ≤ 11) (hn : n < 18446744073709551616) (h4 : k ≤ 4 → l = []) (hp : ∀ i, i < (sortV k l).length → (parseV ((sortV k l).getD i ByteArray.empty)).isSome = true)
    (hs : (parseV (bytesOf (txtL k n b (sortV k l)))).isSome = false) : makeV k n b l = ByteArray.empty := by
  have hall := all_sort hp
  rw [parse_txt k n b (sortV k l) h.1 h.2 hn hall (fun hk => by rw [h4 hk]; exact sort_not6 (by omega) [])] at hs
  by_cases hok : okV k n (sortV k l) ∧ (txtL k n b (sortV k l)).length ≤ 65536
  · rw [if_pos hok] at hs; cases hs
  · exact make_no (fun ⟨_, _, c1, c2, _, c3⟩ => hok ⟨⟨c1, by rw [sort_len]; exact c2, sort_right k l⟩, c3⟩)
theorem makeR_part {i : Nat} (hi : i < (sortV k l).length) (h : (parseV ((sortV k l).getD i ByteArray.empty)).isSome = false) : makeV k n b l = ByteArray.empty := make_no (by
  rintro ⟨_, _, _, _, hp, _⟩
  have := hp ((sortV k l).getD i ByteArray.empty) ((sort_mem k l _).1 (by rw [List.getD_eq_getElem?_getD, List.getElem?_eq_getElem hi]; exact List.getElem_mem hi))
  rw [h] at this
  exact Bool.noConfusion this)
theorem makeR_leaf (h1 : 1 ≤ k) (h : k ≤ 4) (hl : l ≠ []) : makeV k n b l = ByteArray.empty := make_no (fun ⟨_, _, _, hf, _, _⟩ => hl ((fits4 h1 h l).1 hf))
end plain
theorem txt_small (k : Int) (n : Nat) (hn : n < 18446744073709551616) (b : List UInt8) (h4 : k ≤ 4) (hb : b.length ≤ 100000) : (bytesOf (txtL k n b [])).size ≤ 300000 := by
  rw [bytesOf_size]
  unfold txtL
  have := dec_len n hn
  have := hexS_length b
  rw [List.length_cons]
  split
  · omega
  · split
    · omega
    · first | (rw [if_pos h4]; simp; done) | simp
set_option maxRecDepth 100000 in
set_option maxHeartbeats 12800000 in
theorem makeR_short (k : Int) (h1 : 1 ≤ k) (h4 : k ≤ 4) (n : Nat) (hn : n < 18446744073709551616) (bv lv : Value) (b : List UInt8) (hbl : b.length ≤ 100000) (l : List ByteArray) (w : World)
    (hb : Rd w [] bv (ints .u8 (byts b))) (hv : Rd w [] lv (strs l)) :
    Calls Tryz.prog 101 #[.int .i64 k, .int .u64 n, bv, lv] w (MakePost (makeV k n b l) w) := by
  obtain ⟨A, cap, rfl, hc1, hc2⟩ := hv.form
  unfold maxLen at hc2
  rw [strs_length] at hv hc1 ⊢
  have HPR := hide (fun W => print_ref n hn W)
  have HHX := hide (hex_ref w [] _ b hb (by omega))
  have HLX := hide (hexS_length b)
  have HLD := hide (dec_len n hn)
  have HBL := hide hbl
  unfold StrPost at HPR HHX
  have hexI : ¬ 9223372036854775807 < 1 + (hexS b).length := by have := HLX.out; omega
  have decI : ¬ 9223372036854775807 < 1 + (Lib.decDigits n).length := by have := HLD.out; omega
  by_cases hl : l = []
  · subst hl
    have HY := hide (fun (h : (parseV (bytesOf (txtL k n b (sortV k [])))).isSome = true) => makeR_yes (n := n) (b := b) (l := []) ⟨h1, by omega⟩ hn (fun _ => rfl) (by rw [sort_not6 (by omega)]; intro i hi; exact absurd hi (Nat.not_lt_zero i)) h)
    have HNO := hide (fun (h : (parseV (bytesOf (txtL k n b (sortV k [])))).isSome = false) => makeR_no (n := n) (b := b) (l := []) ⟨h1, by omega⟩ hn (fun _ => rfl) (by rw [sort_not6 (by omega)]; intro i hi; exact absurd hi (Nat.not_lt_zero i)) h)
    rw [sort_not6 (by omega)] at HY HNO
    have HIS := hide (fun W => isR_all W (bytesOf (txtL k n b [])) (by have := txt_small k n hn b h4 hbl; unfold maxLen; omega))
    unfold RetB at HIS
    have HC := hide (Only.refl [] w)
    clear hb hv hn hbl
    rcases (show k = 1 ∨ k = 2 ∨ k = 3 ∨ k = 4 by omega) with rfl | rfl | rfl | rfl
    · have hsl : ∀ W, (Instr.sliceAt 9 (.string ⟨#[48, 97, 110, 120, 112, 100, 104, 107, 109, 115, 108]⟩) (some (.int .i64 0)) (some (.int .i64 1)) none).run Tryz.prog W = .ok (.string ⟨#[48]⟩) W := fun W => by kernel_rfl
      have htt : bytesOf (txtL 1 n b []) = ⟨#[48]⟩ := rfl
      rw [htt] at HY HNO HIS
      rcases Bool.eq_false_or_eq_true (parseV ⟨#[48]⟩).isSome with hq | hq
      all_goals
        rw [hq] at HIS HY HNO
        first
          | (have HM := hide (HY.out rfl)) | (have HM := hide (HNO.out rfl))
        clear hq HY HNO
        go_enter Tryz.func101, Tryz.ntmps101
        go_wp2_with (first | (go_at_call 18; refine (HIS.out _).mono ?_; rintro e w2 ⟨rfl, ho⟩; have HC := hide (HC.out.trans ho); clear ho))
        go_ret
        exact makepost HM.out HC.out
    · have hsl : ∀ W, (Instr.sliceAt 9 (.string ⟨#[48, 97, 110, 120, 112, 100, 104, 107, 109, 115, 108]⟩) (some (.int .i64 1)) (some (.int .i64 2)) none).run Tryz.prog W = .ok (.string ⟨#[97]⟩) W := fun W => by kernel_rfl
      have hcat : (⟨#[97]⟩ : ByteArray) ++ ⟨(Lib.decDigits n).toArray⟩ = bytesOf (txtL 2 n b []) := cat_bytes [97] (Lib.decDigits n)
      generalize bytesOf (txtL 2 n b []) = T at *
      rcases Bool.eq_false_or_eq_true (parseV T).isSome with hq | hq
      all_goals
        rw [hq] at HIS HY HNO
        first
          | (have HM := hide (HY.out rfl)) | (have HM := hide (HNO.out rfl))
        clear hq HY HNO
        go_enter Tryz.func101, Tryz.ntmps101
        go_wp2_with (first | (go_at_call 128; refine (HPR.out _).mono ?_; rintro e w1 ⟨rfl, ho⟩; have HC := hide ho; clear ho) | (go_at_call 18; refine (HIS.out _).mono ?_; rintro e w2 ⟨rfl, ho⟩; have HC := hide (HC.out.trans ho); clear ho))
        go_ret
        exact makepost HM.out HC.out
    · have hsl : ∀ W, (Instr.sliceAt 9 (.string ⟨#[48, 97, 110, 120, 112, 100, 104, 107, 109, 115, 108]⟩) (some (.int .i64 2)) (some (.int .i64 3)) none).run Tryz.prog W = .ok (.string ⟨#[110]⟩) W := fun W => by kernel_rfl
      have hcat : (⟨#[110]⟩ : ByteArray) ++ ⟨(Lib.decDigits n).toArray⟩ = bytesOf (txtL 3 n b []) := cat_bytes [110] (Lib.decDigits n)
      generalize bytesOf (txtL 3 n b []) = T at *
      rcases Bool.eq_false_or_eq_true (parseV T).isSome with hq | hq
      all_goals
        rw [hq] at HIS HY HNO
        first
          | (have HM := hide (HY.out rfl)) | (have HM := hide (HNO.out rfl))
        clear hq HY HNO
        go_enter Tryz.func101, Tryz.ntmps101
        go_wp2_with (first | (go_at_call 128; refine (HPR.out _).mono ?_; rintro e w1 ⟨rfl, ho⟩; have HC := hide ho; clear ho) | (go_at_call 18; refine (HIS.out _).mono ?_; rintro e w2 ⟨rfl, ho⟩; have HC := hide (HC.out.trans ho); clear ho))
        go_ret
        exact makepost HM.out HC.out
    · have hsl : ∀ W, (Instr.sliceAt 9 (.string ⟨#[48, 97, 110, 120, 112, 100, 104, 107, 109, 115, 108]⟩) (some (.int .i64 3)) (some (.int .i64 4)) none).run Tryz.prog W = .ok (.string ⟨#[120]⟩) W := fun W => by kernel_rfl
      have hcat : (⟨#[120]⟩ : ByteArray) ++ ⟨(hexS b).toArray⟩ = bytesOf (txtL 4 n b []) := cat_bytes [120] (hexS b)
      generalize bytesOf (txtL 4 n b []) = T at *
      rcases Bool.eq_false_or_eq_true (parseV T).isSome with hq | hq
      all_goals
        rw [hq] at HIS HY HNO
        first
          | (have HM := hide (HY.out rfl)) | (have HM := hide (HNO.out rfl))
        clear hq HY HNO
        go_enter Tryz.func101, Tryz.ntmps101
        go_wp2_with (first | (go_at_call 129; refine HHX.out.mono ?_; rintro e w1 ⟨rfl, ho⟩; have HC := hide ho; clear ho) | (go_at_call 18; refine (HIS.out _).mono ?_; rintro e w2 ⟨rfl, ho⟩; have HC := hide (HC.out.trans ho); clear ho))
        go_ret
        exact makepost HM.out HC.out
  · have HM := hide (makeR_leaf (n := n) (b := b) h1 h4 hl)
    have hposN : 0 < l.length := List.length_pos_iff.2 hl
    have hpos : (0 : Int) < l.length := by omega
    have HC := hide (Only.refl [] w)
    clear hb hv hn hbl hl
    rcases (show k = 1 ∨ k = 2 ∨ k = 3 ∨ k = 4 by omega) with rfl | rfl | rfl | rfl
    · have hsl : ∀ W, (Instr.sliceAt 9 (.string ⟨#[48, 97, 110, 120, 112, 100, 104, 107, 109, 115, 108]⟩) (some (.int .i64 0)) (some (.int .i64 1)) none).run Tryz.prog W = .ok (.string ⟨#[48]⟩) W := fun W => by kernel_rfl
      go_enter Tryz.func101, Tryz.ntmps101
      go_wp2_with fail
      go_ret
      exact makepost HM.out HC.out
    · have hsl : ∀ W, (Instr.sliceAt 9 (.string ⟨#[48, 97, 110, 120, 112, 100, 104, 107, 109, 115, 108]⟩) (some (.int .i64 1)) (some (.int .i64 2)) none).run Tryz.prog W = .ok (.string ⟨#[97]⟩) W := fun W => by kernel_rfl
      have hcat : (⟨#[97]⟩ : ByteArray) ++ ⟨(Lib.decDigits n).toArray⟩ = bytesOf (txtL 2 n b []) := cat_bytes [97] (Lib.decDigits n)
      generalize bytesOf (txtL 2 n b []) = T at *
      go_enter Tryz.func101, Tryz.ntmps101
      go_wp2_with (first | (go_at_call 128; refine (HPR.out _).mono ?_; rintro e w1 ⟨rfl, ho⟩; have HC := hide ho; clear ho))
      go_ret
      exact makepost HM.out HC.out
    · have hsl : ∀ W, (Instr.sliceAt 9 (.string ⟨#[48, 97, 110, 120, 112, 100, 104, 107, 109, 115, 108]⟩) (some (.int .i64 2)) (some (.int .i64 3)) none).run Tryz.prog W = .ok (.string ⟨#[110]⟩) W := fun W => by kernel_rfl
      have hcat : (⟨#[110]⟩ : ByteArray) ++ ⟨(Lib.decDigits n).toArray⟩ = bytesOf (txtL 3 n b []) := cat_bytes [110] (Lib.decDigits n)
      generalize bytesOf (txtL 3 n b []) = T at *
      go_enter Tryz.func101, Tryz.ntmps101
      go_wp2_with (first | (go_at_call 128; refine (HPR.out _).mono ?_; rintro e w1 ⟨rfl, ho⟩; have HC := hide ho; clear ho))
      go_ret
      exact makepost HM.out HC.out
    · have hsl : ∀ W, (Instr.sliceAt 9 (.string ⟨#[48, 97, 110, 120, 112, 100, 104, 107, 109, 115, 108]⟩) (some (.int .i64 3)) (some (.int .i64 4)) none).run Tryz.prog W = .ok (.string ⟨#[120]⟩) W := fun W => by kernel_rfl
      have hcat : (⟨#[120]⟩ : ByteArray) ++ ⟨(hexS b).toArray⟩ = bytesOf (txtL 4 n b []) := cat_bytes [120] (hexS b)
      generalize bytesOf (txtL 4 n b []) = T at *
      go_enter Tryz.func101, Tryz.ntmps101
      go_wp2_with (first | (go_at_call 129; refine HHX.out.mono ?_; rintro e w1 ⟨rfl, ho⟩; have HC := hide ho; clear ho))
      go_ret
      exact makepost HM.out HC.out
end
end Go.Proofs.YtfipdjlalfpbnaaGreatDoor

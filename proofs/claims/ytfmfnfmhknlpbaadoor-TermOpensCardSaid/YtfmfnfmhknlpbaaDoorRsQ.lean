/-
  The reference's Read and Is at any text, Same and Size of texts: by walking. Condition: texts have at most 2^63 - 1 bytes.
-/
import Derived.Test.YtfmfnfmhknlpbaaDoorRt11Q
import Derived.Test.YtfmfnfmhknlpbaaDoorTvQ
namespace Go.Proofs.YtfmfnfmhknlpbaaDoor
open Go.RowKit Go.Deep

set_option maxRecDepth 100000 in
set_option maxHeartbeats 3200000 in
theorem readR_all (w : World) (s : ByteArray) (hs : s.size ≤ maxLen) : Calls Tryd.prog 23 #[.string s] w (ReadRPost (parseV s) w) := by
  by_cases hlt : 65536 < s.size
  · have HB := hide (Blk.new w 41 zeroN)
    have HO := hide ((Only.refl [] w).alloc (.cells zeroN 41))
    unfold zeroN at HB HO
    have hltI : (65536 : Int) < s.size := by omega
    have HR := hide (show parseV s = none by unfold parseV; rw [if_pos hlt])
    unfold maxLen at hs
    clear hlt
    go_enter Tryd.func23, Tryd.ntmps23
    go_wp2_with fail
    refine bodyPost_ret (results_cell_row rfl _ _ w.heap.size 41 _ (0, 0) _ rfl HB.out Tryd.underlying41 rfl (by kernel_rfl)) rfl ?_
    exact readR_no HR.out HO.out
  · exact readR_any w s (by omega)

set_option maxRecDepth 100000 in
set_option maxHeartbeats 1600000 in
theorem isR_all (w : World) (s : ByteArray) (hs : s.size ≤ maxLen) : Calls Tryd.prog 12 #[.string s] w (RetB (parseV s).isSome w) := by
  have HP := hide (readR_all w s hs)
  have HK := hide (fun k n b l (h : parseV s = some (k, n, b, l)) => show 1 ≤ k by have := read_make h; exact this.2.1)
  cases hr : parseV s with
  | none =>
    rw [hr] at HP
    unfold ReadRPost nd0 at HP
    simp only at HP
    have hf : ∀ W : World, (Instr.field 41 (.agg #[.int .i64 0, .int .u64 0, .slice none 0 0, .slice none 0 0]) 0).run Tryd.prog W = .ok (.int .i64 0) W := fun W => by kernel_rfl
    go_enter Tryd.func12, Tryd.ntmps12
    go_wp2_with (go_at_call 23; refine HP.out.mono ?_; rintro e w2 ⟨rfl, ho⟩; have HO := hide ho; clear ho)
    go_ret
    exact retb rfl HO.out
  | some nd =>
    obtain ⟨k, n, bs, parts⟩ := nd
    have hk := HK.out _ _ _ _ hr
    have hkb : (0 : Int) < k := by omega
    rw [hr] at HP
    unfold ReadRPost at HP
    simp only at HP
    have hf : ∀ (A1 A2 : Option Addr) (n1 c1 n2 c2 : Nat) (W : World), (Instr.field 41 (.agg #[.int .i64 k, .int .u64 (n : Nat), .slice A1 n1 c1, .slice A2 n2 c2]) 0).run Tryd.prog W = .ok (.int .i64 k) W := fun A1 A2 n1 c1 n2 c2 W => by kernel_rfl
    clear hk HK
    go_enter Tryd.func12, Tryd.ntmps12
    go_wp2_with (go_at_call 23; refine HP.out.mono ?_; rintro e w2 ⟨bv, pv, rfl, ho, hb, hp⟩; obtain ⟨A1, cap1, rfl, _, _⟩ := (hb [] (by simp)).formb; obtain ⟨A2, cap2, rfl, _, _⟩ := (hp [] (by simp)).form; have HO := hide ho; clear ho hb hp)
    go_ret
    exact retb rfl HO.out

theorem get_txt {l : List ByteArray} {i : Nat} (hi : i < l.length) : (strs l)[i]? = some (.string (l.getD i ByteArray.empty)) := by simp [strs, List.getElem?_eq_getElem hi]
theorem lists_same {l m : List ByteArray} (hlen : l.length = m.length) (h : ∀ i, i < l.length → eqB (l.getD i ByteArray.empty) (m.getD i ByteArray.empty) = true) : l = m := by
  apply List.ext_getElem hlen
  intro i h1 h2
  have h3 := (eqB_iff _ _).1 (h i h1)
  rwa [List.getD_eq_getElem?_getD, List.getElem?_eq_getElem h1, Option.getD_some, List.getD_eq_getElem?_getD, List.getElem?_eq_getElem h2, Option.getD_some] at h3

set_option maxRecDepth 100000 in
set_option maxHeartbeats 3200000 in
theorem same_strs (v u : Value) (l m : List ByteArray) (w : World) (hx : Rd w [] v (strs l)) (hy : Rd w [] u (strs m)) :
    Calls Tryd.prog 19 #[v, u] w (RetB (decide (l = m)) w) := by
  obtain ⟨A, cap, rfl, hc1, hc2⟩ := hx.form
  obtain ⟨A', cap', rfl, hc1', hc2'⟩ := hy.form
  unfold maxLen at hc2 hc2'
  rw [strs_length] at hx hc1 hy hc1' ⊢
  rw [strs_length]
  by_cases hlen : l.length = m.length
  case neg =>
    have hl : ((l.length : Int) != (m.length : Int)) = true := by rw [bne_iff_ne]; omega
    have HR := hide (show decide (l = m) = false from decide_eq_false (fun h => hlen (by rw [h])))
    clear hx hy hlen
    go_enter Tryd.func19, Tryd.ntmps19
    go_wp2_with fail
    go_ret
    exact retb HR.out (Only.refl _ _)
  obtain ⟨n, hn⟩ : ∃ n, n = l.length := ⟨_, rfl⟩
  rw [← hlen, ← hn] at hy hc1' ⊢
  rw [← hn] at hx hc1
  have HX := hide hx
  have HY := hide hy
  have HN := hide hn
  have HL := hide hlen
  have HO := hide (Only.refl [] w)
  clear hx hy hn hlen
  go_enter Tryd.func19, Tryd.ntmps19
  go_wp2_with fail
  go_loopw [5] (fun i wr => ∃ j : Nat, j ≤ n ∧ i = .int .i64 j ∧ Hid (∀ i, i < j → eqB (l.getD i ByteArray.empty) (m.getD i ByteArray.empty) = true) ∧ Hid (Only [] w wr)) (fun i _ => n - (intOf i).toNat)
  case atStart => exact ⟨0, Nat.zero_le _, rfl, hide (fun i h => absurd h (Nat.not_lt_zero i)), HO⟩
  case round =>
    clear HO
    obtain ⟨j, hj, rfl, HK, HO⟩ := hrel
    by_cases hlt : j < n
    · have hltI : (j : Int) < n := by omega
      have hjl : j < l.length := by rw [← HN.out]; exact hlt
      have hjm : j < m.length := by rw [← HL.out, ← HN.out]; exact hlt
      obtain ⟨g, o, rfl, _, hg, hcell⟩ := (HX.out.only HO.out (by simp)).at_.2.2.2 j _ (get_txt hjl)
      obtain ⟨g', o', rfl, _, hg', hcell'⟩ := (HY.out.only HO.out (by simp)).at_.2.2.2 j _ (get_txt hjm)
      rcases Bool.eq_false_or_eq_true (eqB (l.getD j ByteArray.empty) (m.getD j ByteArray.empty)) with he | he
      · have HZ := hide (show ∀ i, i < j + 1 → eqB (l.getD i ByteArray.empty) (m.getD i ByteArray.empty) = true from fun i hi => (Nat.lt_or_eq_of_le (Nat.le_of_lt_succ hi)).elim (HK.out i) (fun h => by rw [h]; exact he))
        unfold eqB at he
        generalize l.getD j ByteArray.empty = p at *
        generalize m.getD j ByteArray.empty = q at *
        clear hjl hjm
        go_wp2_with fail
        go_quiet (fail)
        go_wp2_with fail
        go_roundw
        case rel => exact ⟨j + 1, by omega, by go_num, HZ, hide (HO.out.drewN _)⟩
        case measure => simp [intOf]; omega
      · have HR := hide (show decide (l = m) = false from decide_eq_false (fun h => by subst h; rw [(eqB_iff _ _).2 rfl] at he; cases he))
        unfold eqB at he
        generalize l.getD j ByteArray.empty = p at *
        generalize m.getD j ByteArray.empty = q at *
        clear hjl hjm
        go_wp2_with fail
        go_quiet (fail)
        go_wp2_with fail
        go_ret
        exact retb HR.out (HO.out.drewN _)
    · have hge : ¬ (j : Int) < n := by omega
      have HR := hide (show decide (l = m) = true from decide_eq_true (lists_same HL.out (fun i hi => HK.out i (by have := HN.out; omega))))
      go_wp2_with fail
      go_ret
      exact retb HR.out HO.out

def SizePost (w : World) (e : Ending) (w' : World) : Prop := ∃ x : Int, e = .returned (.int .i64 x) ∧ Only [] w w'
set_option maxRecDepth 100000 in
set_option maxHeartbeats 3200000 in
theorem Size_some (v : Value) (l : List ByteArray) (w : World) (hx : Rd w [] v (strs l)) : Calls Tryd.prog 17 #[v] w (SizePost w) := by
  obtain ⟨A, cap, rfl, hc1, hc2⟩ := hx.form
  unfold maxLen at hc2
  rw [strs_length] at hx hc1 ⊢
  obtain ⟨n, hn⟩ : ∃ n, n = l.length := ⟨_, rfl⟩
  rw [← hn] at hx hc1 ⊢
  have HX := hide hx
  have HN := hide hn
  have HO := hide (Only.refl [] w)
  clear hx hn
  go_enter Tryd.func17, Tryd.ntmps17
  go_wp2_with fail
  go_loopw [4, 3] (fun i s wr => ∃ (j : Nat) (x : Int), j ≤ n ∧ i = .int .i64 j ∧ s = .int .i64 x ∧ Hid (Only [] w wr)) (fun i _ _ => n - (intOf i).toNat)
  case atStart => exact ⟨0, 0, Nat.zero_le _, rfl, rfl, HO⟩
  case round =>
    clear HO
    obtain ⟨j, x, hj, rfl, rfl, HO⟩ := hrel
    by_cases hlt : j < n
    · have hltI : (j : Int) < n := by omega
      have hjl : j < l.length := by rw [← HN.out]; exact hlt
      obtain ⟨g, o, rfl, _, hg, hcell⟩ := (HX.out.only HO.out (by simp)).at_.2.2.2 j _ (get_txt hjl)
      generalize l.getD j ByteArray.empty = p at *
      clear hjl
      go_wp2_with fail
      go_roundw
      case rel => exact ⟨j + 1, _, by omega, by go_num, rfl, HO⟩
      case measure => simp [intOf]; omega
    · have hge : ¬ (j : Int) < n := by omega
      go_wp2_with fail
      go_ret
      exact ⟨_, rfl, HO.out⟩
end Go.Proofs.YtfmfnfmhknlpbaaDoor

/-
  The reference's Read and Is at any text: by walking. Condition: at most 2^63 - 1 bytes.
-/
import Derived.Test.YtfmfnfmhknlpbaaRt11Q
namespace Go.Proofs.Ytfmfnfmhknlpbaa
open Go.RowKit Go.Deep

set_option maxRecDepth 100000 in
set_option maxHeartbeats 3200000 in
theorem readR_all (w : World) (s : ByteArray) (hs : s.size ≤ maxLen) : Calls Try.prog 62 #[.string s] w (ReadRPost (parseV s) w) := by
  by_cases hlt : 65536 < s.size
  · have HB := hide (Blk.new w 95 zeroN)
    have HO := hide ((Only.refl [] w).alloc (.cells zeroN 95))
    unfold zeroN at HB HO
    have hltI : (65536 : Int) < s.size := by omega
    have HR := hide (show parseV s = none by unfold parseV; rw [if_pos hlt])
    unfold maxLen at hs
    clear hlt
    go_enter Try.func62, Try.ntmps62
    go_wp2_with fail
    refine bodyPost_ret (results_cell_row rfl _ _ w.heap.size 95 _ (0, 0) _ rfl HB.out Try.underlying95 rfl (by kernel_rfl)) rfl ?_
    exact readR_no HR.out HO.out
  · exact readR_any w s (by omega)

set_option maxRecDepth 100000 in
set_option maxHeartbeats 1600000 in
theorem isR_all (w : World) (s : ByteArray) (hs : s.size ≤ maxLen) : Calls Try.prog 31 #[.string s] w (RetB (parseV s).isSome w) := by
  have HP := hide (readR_all w s hs)
  have HK := hide (fun k n b l (h : parseV s = some (k, n, b, l)) => kind_pos h)
  cases hr : parseV s with
  | none =>
    rw [hr] at HP
    unfold ReadRPost nd0 at HP
    simp only at HP
    have hf : ∀ W : World, (Instr.field 95 (.agg #[.int .i64 0, .int .u64 0, .slice none 0 0, .slice none 0 0]) 0).run Try.prog W = .ok (.int .i64 0) W := fun W => by kernel_rfl
    go_enter Try.func31, Try.ntmps31
    go_wp2_with (go_at_call 62; refine HP.out.mono ?_; rintro e w2 ⟨rfl, ho⟩; have HO := hide ho; clear ho)
    go_ret
    exact retb rfl HO.out
  | some nd =>
    obtain ⟨k, n, bs, parts⟩ := nd
    have hk := HK.out _ _ _ _ hr
    have hkb : (0 : Int) < k := by omega
    rw [hr] at HP
    unfold ReadRPost at HP
    simp only at HP
    have hf : ∀ (A1 A2 : Option Addr) (n1 c1 n2 c2 : Nat) (W : World), (Instr.field 95 (.agg #[.int .i64 k, .int .u64 (n : Nat), .slice A1 n1 c1, .slice A2 n2 c2]) 0).run Try.prog W = .ok (.int .i64 k) W := fun A1 A2 n1 c1 n2 c2 W => by kernel_rfl
    clear hk HK
    go_enter Try.func31, Try.ntmps31
    go_wp2_with (go_at_call 62; refine HP.out.mono ?_; rintro e w2 ⟨bv, pv, rfl, ho, hb, hp⟩; obtain ⟨A1, cap1, rfl, _, _⟩ := (hb [] (by simp)).formb; obtain ⟨A2, cap2, rfl, _, _⟩ := (hp [] (by simp)).form; have HO := hide ho; clear ho hb hp)
    go_ret
    exact retb rfl HO.out

end Go.Proofs.Ytfmfnfmhknlpbaa

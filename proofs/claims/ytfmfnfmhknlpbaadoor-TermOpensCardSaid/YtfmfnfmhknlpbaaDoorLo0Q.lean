/-
  The law TermOpens: words, and long texts; by walking. Condition: the library's table of powers of ten reads as it was laid.
-/
import Derived.Test.YtfmfnfmhknlpbaaDoorLmQ
import Derived.Test.YtfmfnfmhknlpbaaDoorLgQ
import Derived.Deep.RegionHeld3
namespace Go.Proofs.YtfmfnfmhknlpbaaDoor
open Go.RowKit Go.Deep

theorem two_cells {w : World} {n cap : Nat} {p q : ByteArray} {g o : Nat} (h : Rd w [] (.slice (some ⟨g, o, none⟩) n cap) (strs [p, q])) : w.cell? ⟨g, o, none⟩ = some (.string p) ∧ w.cell? ⟨g, o + 1, none⟩ = some (.string q) := by
  have h1 := h.at_.2.2.2
  obtain ⟨g', o', hA, _, _, h0⟩ := h1 0 (.string p) rfl
  obtain ⟨g2, o2, hA2, _, _, h2⟩ := h1 1 (.string q) rfl
  cases hA
  cases hA2
  exact ⟨h0, h2⟩
theorem seal_read {n : Nat} (hn : n < 18446744073709551616) {x y z : ByteArray} (h : makeV 10 n [] [x, y, z] ≠ ByteArray.empty) : parseV (makeV 10 n [] [x, y, z]) = some (10, n, [], [x, y, z]) := by
  have hr := make_read hn h
  rw [sort_not6 (by omega)] at hr
  exact hr
theorem open_seal {n m : Nat} (hn : n < 18446744073709551616) {x y z v : ByteArray} (h : makeV 10 n [] [x, y, z] ≠ ByteArray.empty) : openT (makeV 10 n [] [x, y, z]) x m v = if m = n ∧ v = z then (y, 0) else (ByteArray.empty, 8) := by
  unfold openT
  rw [seal_read hn h]
  simp only
  rw [if_neg (by decide)]
  by_cases hc : m = n ∧ v = z
  · rw [if_pos hc, if_pos ⟨rfl, hc.1.symm, hc.2.symm⟩]; rfl
  · rw [if_neg hc, if_neg (fun c => hc ⟨c.2.1.symm, c.2.2.symm⟩)]

set_option maxRecDepth 100000 in
set_option maxHeartbeats 12800000 in
theorem opens_long (t key u v : ByteArray) (n m : Nat) (hs : t.size ≤ maxLen ∧ key.size ≤ maxLen ∧ u.size ≤ maxLen ∧ v.size ≤ maxLen) (hl : 1000 < t.size ∨ 1000 < key.size ∨ 1000 < u.size ∨ 1000 < v.size) (w : World) (htab : Tab w) :
    Calls Tryd.prog 5 #[.string t, .string key, .string u, .string v, .int .u64 n, .int .u64 m] w fun e w' => e = .returned (.bool true) ∧ Only [] w w' := by
  have hx : ((1000 : Int) < t.size) ∨ (¬ (1000 : Int) < t.size ∧ (1000 : Int) < key.size) ∨ (¬ (1000 : Int) < t.size ∧ ¬ (1000 : Int) < key.size ∧ (1000 : Int) < u.size) ∨ (¬ (1000 : Int) < t.size ∧ ¬ (1000 : Int) < key.size ∧ ¬ (1000 : Int) < u.size ∧ (1000 : Int) < v.size) := by omega
  obtain ⟨h1, h2, h3, h4⟩ := hs
  unfold maxLen at h1 h2 h3 h4
  have HT := hide htab
  clear htab hl
  rcases hx with hx | ⟨hx, hy⟩ | ⟨hx, hy, hz⟩ | ⟨hx, hy, hz, hv⟩
  all_goals
    go_enter Tryd.func5, Tryd.ntmps5
    go_wp2_with (go_at_call 10; refine (awake02 _ HT.out).mono ?_; rintro e w1 ⟨rfl, ho⟩; have HC := hide ho; clear ho)
    go_ret
    exact ⟨rfl, HC.out⟩
end Go.Proofs.YtfmfnfmhknlpbaaDoor

/-
  What any bytes are as a message (plain); wire.Read of none: by walking. No condition.
-/
import Derived.Test.YtfmfnfmhknlpbaaWeQ
namespace Go.Proofs.Ytfmfnfmhknlpbaa
open Go.RowKit Go.Deep

def fieldV (i : Nat) (l : List UInt8) : Int × Value × List UInt8 :=
  if i = 1 ∨ i = 2 then ((numV 4 l).1, .int .u32 ((numV 4 l).2.1 : Nat), (numV 4 l).2.2)
  else if i = 3 then ((numV 8 l).1, .int .u64 ((numV 8 l).2.1 : Nat), (numV 8 l).2.2)
  else ((textV l).1, .string (textV l).2.1, (textV l).2.2)
/-- The fields of a row, one after the other. -/
def fieldsV : List Nat → List UInt8 → Array Value → Int × List UInt8 × Array Value
  | [], l, cs => (0, l, cs)
  | i :: r, l, cs => if (fieldV i l).1 = 0 then fieldsV r (fieldV i l).2.2 (cs.setIfInBounds i (fieldV i l).2.1) else ((fieldV i l).1, [], #[])
def rowL (k : Int) : List Nat := if k = 1 then [1, 4, 5, 6, 11, 12] else if k = 2 then [1, 2, 4, 7, 11, 12] else if k = 3 then [2, 8, 9] else [2, 3, 10]
def zeroM (k : Int) : Array Value := #[.int .i64 k, .int .u32 0, .int .u32 0, .int .u64 0, .string ⟨#[]⟩, .string ⟨#[]⟩, .string ⟨#[]⟩, .string ⟨#[]⟩, .string ⟨#[]⟩, .string ⟨#[]⟩, .string ⟨#[]⟩, .string ⟨#[]⟩, .string ⟨#[]⟩]
/-- What any bytes are as a message: the code, the message's cells. -/
def readV (l : List UInt8) : Int × Array Value :=
  if (headV l).1 = 0 then
    (if (fieldsV (rowL (headV l).2.1) (headV l).2.2 (zeroM (headV l).2.1)).1 = 0 then
      (if (fieldsV (rowL (headV l).2.1) (headV l).2.2 (zeroM (headV l).2.1)).2.1 = [] then (0, (fieldsV (rowL (headV l).2.1) (headV l).2.2 (zeroM (headV l).2.1)).2.2) else (5, zeroM 0))
     else ((fieldsV (rowL (headV l).2.1) (headV l).2.2 (zeroM (headV l).2.1)).1, zeroM 0))
  else ((headV l).1, zeroM 0)
theorem read_head {l : List UInt8} (h : (headV l).1 ≠ 0) : readV l = ((headV l).1, zeroM 0) := if_neg h
theorem read_kind {l q : List UInt8} {k : Int} {r : Int × List UInt8 × Array Value} (h : headV l = (0, k, q)) (hf : fieldsV (rowL k) q (zeroM k) = r) : readV l = if r.1 = 0 then (if r.2.1 = [] then (0, r.2.2) else (5, zeroM 0)) else (r.1, zeroM 0) := by
  unfold readV
  rw [h]
  simp only [if_true]
  rw [hf]
theorem fields_yes {i : Nat} {r : List Nat} {l q : List UInt8} {cs : Array Value} {v : Value} (h : fieldV i l = (0, v, q)) : fieldsV (i :: r) l cs = fieldsV r q (cs.setIfInBounds i v) := by rw [fieldsV, h]; rfl
theorem fields_no {i : Nat} {r : List Nat} {l q : List UInt8} {cs : Array Value} {v : Value} {c : Int} (h : fieldV i l = (c, v, q)) (hc : c ≠ 0) : fieldsV (i :: r) l cs = (c, [], #[]) := by rw [fieldsV, h]; exact if_neg hc
theorem text_len (l : List UInt8) : (textV l).2.2.length ≤ l.length := by
  unfold textV
  split
  · simp
  · split
    · simp
    · split
      · simp only [List.length_drop]; omega
      · simp
theorem num_len (k : Nat) (l : List UInt8) : (numV k l).2.2.length ≤ l.length := by
  unfold numV
  split
  · simp
  · simp only [List.length_drop]; omega
def ReadPostW (r : Int × Array Value) (w : World) (e : Ending) (w' : World) : Prop := e = .returned (.tuple #[.agg r.2, .int .i64 r.1]) ∧ Only [] w w'
theorem readw {r : Int × Array Value} {c : Int} {cs : Array Value} {w w' : World} (h : r = (c, cs)) (ho : Only [] w w') : ReadPostW r w (.returned (.tuple #[.agg cs, .int .i64 c])) w' := by subst h; exact ⟨rfl, ho⟩
theorem Rd.more {w : World} {N N' : List Nat} {v : Value} {xs : List Value} (h : Rd w N v xs) (hs : ∀ x ∈ N', x ∈ N ∨ w.heap.size ≤ x) : Rd w N' v xs := by
  obtain ⟨A, cap, hv, hc, hm, h⟩ := h
  refine ⟨A, cap, hv, hc, hm, ?_⟩
  rcases h with h | ⟨g, o, hA, hg, hl, hcell⟩
  · exact .inl h
  · exact .inr ⟨g, o, hA, fun hh => (hs g hh).elim hg (by omega), hl, hcell⟩
theorem RdrAt.more {w : World} {N N' : List Nat} {g : Nat} {l : List UInt8} (h : RdrAt w N g l) (hs : ∀ x ∈ N', x ∈ N ∨ w.heap.size ≤ x) : RdrAt w N' g l := by
  obtain ⟨G, O, cap, hb, hr⟩ := h
  exact ⟨G, O, cap, hb, hr.more (by intro x hx; rcases List.mem_cons.1 hx with h | h; exact .inl (by rw [h]; exact List.mem_cons_self); exact (hs x h).imp (fun h => List.mem_cons_of_mem _ h) id)⟩
theorem set13 {w : World} {R : Nat} {t : TypeId} {a0 a1 a2 a3 a4 a5 a6 a7 a8 a9 a10 a11 a12 : Value} (h : Blk w R t #[a0, a1, a2, a3, a4, a5, a6, a7, a8, a9, a10, a11, a12]) (v0 v1 v2 v3 v4 v5 v6 v7 v8 v9 v10 v11 v12 : Value) : Blk (((((((((((((w.setCell ⟨R, 0, none⟩ v0).setCell ⟨R, 1, none⟩ v1).setCell ⟨R, 2, none⟩ v2).setCell ⟨R, 3, none⟩ v3).setCell ⟨R, 4, none⟩ v4).setCell ⟨R, 5, none⟩ v5).setCell ⟨R, 6, none⟩ v6).setCell ⟨R, 7, none⟩ v7).setCell ⟨R, 8, none⟩ v8).setCell ⟨R, 9, none⟩ v9).setCell ⟨R, 10, none⟩ v10).setCell ⟨R, 11, none⟩ v11).setCell ⟨R, 12, none⟩ v12) R t #[v0, v1, v2, v3, v4, v5, v6, v7, v8, v9, v10, v11, v12] := by
  have h2 := (((((((((((((h.set_ 0 v0).set_ 1 v1).set_ 2 v2).set_ 3 v3).set_ 4 v4).set_ 5 v5).set_ 6 v6).set_ 7 v7).set_ 8 v8).set_ 9 v9).set_ 10 v10).set_ 11 v11).set_ 12 v12)
  simp only [List.setIfInBounds_toArray, List.set_cons_zero, List.set_cons_succ] at h2
  exact h2
theorem only13 {S : List Nat} {a w : World} {R : Nat} (h : Only S a w) (hR : R ∈ S ∨ a.heap.size ≤ R) (v0 v1 v2 v3 v4 v5 v6 v7 v8 v9 v10 v11 v12 : Value) : Only S a (((((((((((((w.setCell ⟨R, 0, none⟩ v0).setCell ⟨R, 1, none⟩ v1).setCell ⟨R, 2, none⟩ v2).setCell ⟨R, 3, none⟩ v3).setCell ⟨R, 4, none⟩ v4).setCell ⟨R, 5, none⟩ v5).setCell ⟨R, 6, none⟩ v6).setCell ⟨R, 7, none⟩ v7).setCell ⟨R, 8, none⟩ v8).setCell ⟨R, 9, none⟩ v9).setCell ⟨R, 10, none⟩ v10).setCell ⟨R, 11, none⟩ v11).setCell ⟨R, 12, none⟩ v12) :=
  (((((((((((((h.setCell (p := ⟨R, 0, none⟩) hR v0).setCell (p := ⟨R, 1, none⟩) hR v1).setCell (p := ⟨R, 2, none⟩) hR v2).setCell (p := ⟨R, 3, none⟩) hR v3).setCell (p := ⟨R, 4, none⟩) hR v4).setCell (p := ⟨R, 5, none⟩) hR v5).setCell (p := ⟨R, 6, none⟩) hR v6).setCell (p := ⟨R, 7, none⟩) hR v7).setCell (p := ⟨R, 8, none⟩) hR v8).setCell (p := ⟨R, 9, none⟩) hR v9).setCell (p := ⟨R, 10, none⟩) hR v10).setCell (p := ⟨R, 11, none⟩) hR v11).setCell (p := ⟨R, 12, none⟩) hR v12)

set_option maxRecDepth 100000 in
set_option maxHeartbeats 3200000 in
theorem take_nil (w : World) (g : Nat) (A : Option Addr) (cap : Nat) (h : Blk w g 55 #[.slice A 0 cap]) : Calls Try.prog 60 #[.pointer (some ⟨g, 0, none⟩), .int .i64 1] w fun e w' => e = .returned (.tuple #[.slice none 0 0, .bool false]) ∧ w = w' := by
  have k0 := h.cell 0
  simp at k0
  clear h
  go_enter Try.func60, Try.ntmps60
  go_wp2
  go_ret2
  exact ⟨rfl, rfl⟩
theorem number_nil (w : World) (g : Nat) (A : Option Addr) (cap : Nat) (h : Blk w g 55 #[.slice A 0 cap]) : Calls Try.prog 45 #[.pointer (some ⟨g, 0, none⟩), .int .i64 1] w fun e w' => e = .returned (.tuple #[.int .u64 0, .bool false]) ∧ w = w' := by
  go_enter Try.func45, Try.ntmps45
  go_wp2_with (go_at_call 60; refine (take_nil _ g A cap h).mono ?_; rintro e w1 ⟨rfl, rfl⟩)
  go_ret2
  exact ⟨rfl, rfl⟩
theorem head_nil (w : World) (g : Nat) (A : Option Addr) (cap : Nat) (h : Blk w g 55 #[.slice A 0 cap]) : Calls Try.prog 27 #[.pointer (some ⟨g, 0, none⟩)] w fun e w' => e = .returned (.tuple #[.int .i64 0, .int .i64 4]) ∧ w = w' := by
  go_enter Try.func27, Try.ntmps27
  go_wp2_with (go_at_call 45; refine (number_nil _ g A cap h).mono ?_; rintro e w1 ⟨rfl, rfl⟩)
  go_ret2
  exact ⟨rfl, rfl⟩
set_option maxRecDepth 100000 in
set_option maxHeartbeats 6400000 in
theorem Read_nil (w : World) (A : Option Addr) (cap : Nat) : Calls Try.prog 7 #[.slice A 0 cap] w (ReadPostW (readV []) w) := by
  have HRB := hide ((Blk.new w 27 (zeroM 0)).alloc (.cells #[.slice A 0 cap] 55))
  have HG := hide (Blk.new (w.alloc (.cells (zeroM 0) 27)) 55 #[.slice A 0 cap])
  rw [World.size_alloc] at HG
  have HO := hide (((Only.refl [] w).alloc (.cells (zeroM 0) 27)).alloc (.cells #[.slice A 0 cap] 55))
  unfold zeroM at HRB HG HO
  have HV := hide (show readV [] = (4, zeroM 0) from read_head (l := []) (by decide))
  go_enter Try.func7, Try.ntmps7
  go_wp2_with (go_at_call 27; refine (head_nil _ _ A cap HG.out).mono ?_; rintro e w1 ⟨rfl, rfl⟩)
  refine bodyPost_ret (results_cell_two rfl _ _ w.heap.size 27 _ (0, 0) _ rfl HRB.out Try.underlying27 rfl (by kernel_rfl)) rfl ?_
  exact readw HV.out HO.out
end Go.Proofs.Ytfmfnfmhknlpbaa

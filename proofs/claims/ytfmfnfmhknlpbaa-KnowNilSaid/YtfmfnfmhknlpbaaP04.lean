/-
  Walks and plain words for KnowNil (texts Ret, Kn3, Kn4, Kn5, Hex, Gn, Tv, Kn6, Kn7, Kn8). No condition beyond those that each theorem states.
-/
import Derived.Test.YtfmfnfmhknlpbaaChecked
import Derived.ScopeJumps
import Derived.Lib.SliceRun
import Derived.Lib.ItoaMem
import Derived.StillTailTactics
import Derived.Deep.RegionHeld3
import Derived.Lib.SmallJoins
import Derived.Test.YtfmfnfmhknlpbaaP03
namespace Go.Proofs.Ytfmfnfmhknlpbaa
section
open Go.RowKit Go.Deep

def RetB (r : Bool) (w : World) (e : Ending) (w' : World) : Prop := e = .returned (.bool r) ∧ Only [] w w'
theorem retb {r s : Bool} {w w' : World} (h : r = s) (ho : Only [] w w') : RetB r w (.returned (.bool s)) w' := by subst h; exact ⟨rfl, ho⟩
end
section
open Go.RowKit Go.Deep Go.Maps Go.WideMaps

/-- A slice, as an element of a map: by its own numbers. -/
def sliceElem : Value → Option (DataW Unit × List MemPlace)
  | .slice (some ⟨b, o, none⟩) n c => some (.agg [.lit (.int .i64 b), .lit (.int .i64 o), .lit (.int .i64 n), .lit (.int .i64 c)], [])
  | .slice none 0 0 => some (.nil, [])
  | _ => none
def Shut (sb n : Nat) (D : DataW Unit) (w : World) : Prop := w.ownsMap Try.prog 9 sliceElem sb n D
theorem Shut.only {S : List Nat} {m n : Nat} {D : DataW Unit} {w w' : World} (h : Shut m n D w) (ho : Only S w w') (hm : m ∉ S) : Shut m n D w' := by
  have hlt := World.ownsMap.lt h
  obtain ⟨es, clock, hb, F, hs, hD⟩ := h
  exact ⟨es, clock, (ho.block m hlt hm).trans hb, F, hs, hD⟩
def NewKPost (w : World) (e : Ending) (w' : World) : Prop := e = .returned (.pointer (some ⟨w.heap.size + 2, 0, none⟩)) ∧ KnowIs (w.heap.size + 2) w.heap.size 0 (w.heap.size + 1) (.map []) (.slice none 0 0) w' ∧ Shut (w.heap.size + 1) 0 (.map []) w' ∧ Only [] w w'
set_option maxRecDepth 100000 in
set_option maxHeartbeats 6400000 in
theorem newK_any (w : World) : Calls Try.prog 26 #[] w (NewKPost w) := by
  have hmm := @run_makeMap Try.prog
  have HH := hide (show Had w.heap.size 0 (.map []) (w.alloc (.map #[] 0)) from World.ownsMap_made _ _ _ _)
  have HS := hide (show Shut (w.heap.size + 1) 0 (.map []) ((w.alloc (.map #[] 0)).alloc (.map #[] 0)) from by
    have h := World.ownsMap_made (H := Unit) (w.alloc (.map #[] 0)) Try.prog 9 sliceElem
    rw [World.size_alloc] at h
    exact h)
  have HO := hide ((Only.refl [] w).alloc (.map #[] 0))
  go_enter Try.func26, Try.ntmps26
  go_wp2_with fail
  go_ret
  refine ⟨rfl, ⟨?_, HH.out.only (((Only.refl [] _).alloc _).alloc _) (by simp)⟩, HS.out.only ((Only.refl [] _).alloc _) (by simp), (HO.out.alloc _).alloc _⟩
  have h := Blk.new ((w.alloc (.map #[] 0)).alloc (.map #[] 0)) 86 #[.map (some w.heap.size), .map (some (w.heap.size + 1)), .slice none 0 0]
  rw [World.size_alloc, World.size_alloc] at h
  exact h
set_option maxRecDepth 100000 in
set_option maxHeartbeats 6400000 in
theorem made_atom (w : World) (k m n sb : Nat) (D : DataW Unit) (keys : Value) (s : ByteArray) (hk : KnowIs k m n sb D keys w) (hp : 0 < s.size) (hs : s.size ≤ maxLen) (hc : ((s[0].toNat : Int) == 97) = true) :
    Calls Try.prog 43 #[.pointer (some ⟨k, 0, none⟩), .string s] w (RetB (hadB D (s.extract 0 (send s 1))) w) := by
  have hc0 : (s[0].toNat : Int) = 97 := by rw [beq_iff_eq] at hc; exact hc
  have HK := hide (hk.only ((Only.refl [] w).alloc (.cells #[.pointer (some ⟨k, 0, none⟩), .string s, .int .i64 0] 105)) (by simp) (by simp))
  have HB := hide (show KAt w.heap.size (some ⟨k, 0, none⟩) s 0 _ from Blk.new w 105 #[.pointer (some ⟨k, 0, none⟩), .string s, .int .i64 0])
  have hkl := hk.1.lt
  have hml := World.ownsMap.lt hk.2
  have HO := hide ((Only.refl [] w).alloc (.cells #[.pointer (some ⟨k, 0, none⟩), .string s, .int .i64 0] 105))
  have HR := hide (read_atom _ w.heap.size k m n sb D keys s 0 HB.out HK.out (by omega) (by omega) hp hs (by rw [hc0]; rfl) (by rw [hc0]; rfl) (by rw [hc0]; rfl) hc (by rw [hc0]; rfl))
  unfold ReadKPost at HR
  clear hk hc hc0 hp hs hkl hml
  go_enter Try.func43, Try.ntmps43
  go_wp2_with (go_at_call 67; refine HR.out.mono ?_; rintro e w1 ⟨rfl, _, ho⟩; replace HO := hide ((HO.out.mono (S' := [w.heap.size]) (by simp)).trans ho |>.mono (S' := []) (by simp)); clear ho)
  go_ret
  exact retb rfl HO.out
theorem CanK_atom (w : World) (k m n sb : Nat) (D : DataW Unit) (keys : Value) (s : ByteArray) (hk : KnowIs k m n sb D keys w) (hp : 0 < s.size) (hs : s.size ≤ maxLen) (hc : ((s[0].toNat : Int) == 97) = true) (hkd : kindT s ≠ 0) :
    Calls Try.prog 22 #[.pointer (some ⟨k, 0, none⟩), .string s] w (RetB (hadB D (s.extract 0 (send s 1))) w) := by
  have HM := hide (fun W (h : KnowIs k m n sb D keys W) => made_atom W k m n sb D keys s h hp hs hc)
  have HKK := hide (Kind_any w s hs)
  unfold RetB at HM
  unfold KindPost at HKK
  have hk0 : (kindT s == 0) = false := by rw [beq_eq_false_iff_ne]; exact hkd
  have HK := hide hk
  clear hk hkd hc hp hs
  go_enter Try.func22, Try.ntmps22
  go_wp2_with (first
    | (go_at_call 39; refine HKK.out.mono ?_; rintro e w1 ⟨rfl, ho⟩; replace HK := hide (HK.out.only ho (by simp) (by simp)); have HO := hide ho; clear ho)
    | (go_at_call 43; refine (HM.out _ HK.out).mono ?_; rintro e w2 ⟨rfl, ho⟩; replace HO := hide (HO.out.trans ho); clear ho))
  go_ret
  exact retb rfl HO.out
theorem CanK_nil (w : World) (s : ByteArray) : Calls Try.prog 22 #[.pointer none, .string s] w (RetB false w) := by
  go_enter Try.func22, Try.ntmps22
  go_wp2
  go_ret
  exact retb rfl (Only.refl _ _)
end
section
open Go.RowKit Go.Deep Go.Maps Go.WideMaps

/-- The code behind a label, with at most n jumps back to it. -/
def JumpsN (P : Program) (rest : Code) (l : Nat) (Q : Exit → Act → World → Prop) : Nat → Act → World → Prop
  | 0, _, _ => False
  | n + 1, a, w => rest.wp P (Exit.jump l (JumpsN P rest l Q n) Q) a w
theorem least_of (p : Nat → Prop) : ∀ n, p n → ∃ k, p k ∧ ∀ m, p m → k ≤ m := by
  intro n
  induction n using Nat.strongRecOn with
  | _ n ih =>
    intro hn
    by_cases h : ∃ m, m < n ∧ p m
    · obtain ⟨m, hm, hp⟩ := h
      exact ih m hm hp
    · exact ⟨n, hn, fun m hp => Nat.not_lt.1 fun hlt => h ⟨m, hlt, hp⟩⟩
open Classical in
noncomputable def leastN (p : Nat → Prop) : Nat := if h : ∃ n, p n then Classical.choose (least_of p (Classical.choose h) (Classical.choose_spec h)) else 0
theorem leastN_spec {p : Nat → Prop} (h : ∃ n, p n) : p (leastN p) ∧ ∀ m, p m → leastN p ≤ m := by
  unfold leastN
  rw [dif_pos h]
  exact Classical.choose_spec (least_of p (Classical.choose h) (Classical.choose_spec h))
theorem wp_scope_rounds {P : Program} {a : Act} {w : World} {Q : Exit → Act → World → Prop} {c rest : Code} (l N : Nat) (hf : findLabel c l = some rest)
    (first : c.wp P (Exit.jump l (JumpsN P rest l Q N) Q) a w) : (Code.scope c).wp P Q a w := by
  refine wp_scope_jumps l (fun a w => ∃ n, JumpsN P rest l Q n a w) (fun a w => leastN fun n => JumpsN P rest l Q n a w) hf ?_ ?_
  · refine Code.wp_mono (fun e a w h => ?_) first
    cases e with
    | goto l' => exact ⟨h.1, N, h.2⟩
    | _ => exact h
  · intro a w hJ
    obtain ⟨hs, _⟩ := leastN_spec hJ
    generalize hn : (leastN fun n => JumpsN P rest l Q n a w) = k at hs ⊢
    cases k with
    | zero => exact hs.elim
    | succ m =>
      refine Code.wp_mono (fun e a' w' h => ?_) hs
      cases e with
      | goto l' => exact ⟨h.1, ⟨m, h.2⟩, Nat.lt_succ_of_le ((leastN_spec ⟨m, h.2⟩).2 m h.2)⟩
      | _ => exact h
theorem wpList_lookup_had {P : Program} (w : World) {ops : Array Oper} {rest : List Oper} {o : Oper} {a : Act} {Q : Exit → Act → World → Prop}
    (hg : o.guard = none) (m x : Operand) (t : TypeId) (hop : o.op = Op.lookup t m x false) (mv key v : Value) (hm : a.eval m = mv) (hx : a.eval x = key)
    (hrun : (Instr.lookup t mv key false).run P w = .ok v w) (hK : wpList P ops Q rest (a.put o.dst v) w) : wpList P ops Q (o :: rest) a w := by
  refine wpList_plain hg fun K' hK' => ?_
  unfold Oper.wp
  simp [execOp, hop, hm, hx, hrun, Result.andThen]
  exact hK' _ _ hK
theorem info_string : (Try.prog.info? 9).map (fun i => (i.zero, i.size, i.bytes)) = some (some (.string ByteArray.empty), 1, 16) := by kernel_rfl
set_option maxRecDepth 100000 in
set_option maxHeartbeats 6400000 in
theorem clone_strs (w : World) (N : List Nat) (hN : ∀ x ∈ N, x < w.heap.size) (g o cap : Nat) (l : List ByteArray) (hv : Rd w [] (.slice (some ⟨g, o, none⟩) l.length cap) (strs l)) (hl : l.length ≤ 1000) :
    Calls Try.prog 65 #[.slice (some ⟨g, o, none⟩) l.length cap] w fun e w' => ∃ v', e = .returned v' ∧ Rd w' N v' (strs l) ∧ Only [] w w' := by
  obtain ⟨i0, hi, hz0, hz1, hz2⟩ := info_parts info_string
  have HNN := hide hN
  clear hN
  have hrd := hide hv.reads
  have qn := fun (W : World) (A : Option Addr) (n c : Nat) => Lib.run_eql_slice_nil (P := Try.prog) W 50 9 A n c 0 0 Try.underlying50
  have hown0 := hide (own_empty w 9 w.heap.size (Nat.le_refl _))
  have HO0 := hide ((Only.refl [] w).alloc (.cells #[] 9))
  have hrd0 := hide (show Reads (w.alloc (.cells #[] 9)) w.heap.size 1 (some ⟨g, o, none⟩) l.length (strs l) from hrd.out.alloc (Nat.le_refl _) _)
  have ho := hide (show ∀ u ∈ strs l, u.oneCell' = true by intro v hv; unfold strs at hv; obtain ⟨x, _, rfl⟩ := List.mem_map.1 hv; rfl)
  clear hv hrd
  generalize l.length = n at *
  generalize strs l = cs at *
  go_enter Try.func65, Try.ntmps65
  go_wp2_with (at_builtin; refine wpList_append_any _ rfl (.tmp 5) (.tmp 6) 50 rfl w.heap.size 9 i0 (.string ByteArray.empty) 1 16 Try.underlying50 hi hz0 hz1 hz2 rfl (by decide) _ 0 [] rfl hown0.out w.heap.size (some ⟨g, o, none⟩) n cap cs rfl hrd0.out ho.out (by unfold maxLen; omega) (by omega) (by simp) ?_; intro v1 w1 hown1 hg1 _; have HOWN1 := hide hown1; have ho1 := hide (HO0.out.grown hg1 (fun j hj => .inr (own_block_ge hown0.out hj))); clear hown1 hg1)
  go_ret
  refine ⟨v1, rfl, ?_, ho1.out⟩
  have h := HOWN1.out
  rw [Nat.zero_add, List.nil_append] at h
  exact (Rd.of_own (N := N) h HNN.out).1
end
section
open Go.RowKit Go.Deep Go.Maps Go.WideMaps

set_option maxRecDepth 100000 in
set_option maxHeartbeats 6400000 in
theorem have_one (w : World) (k m n sb n2 : Nat) (D E : DataW Unit) (keys : Value) (g o cap : Nat) (x : ByteArray) (hk : Blk w k 86 #[.map (some m), .map (some sb), keys]) (hh : Had m n D w) (hsh : Shut sb n2 E w) (hkm : k ≠ m) (hks : k ≠ sb) (hms : m ≠ sb) (hn : n ≤ 1000)
    (hv : Rd w [] (.slice (some ⟨g, o, none⟩) 1 cap) (strs [x])) (hsx : x.size ≤ maxLen) (e10x : (kindT x == 10) = false) (e11x : (kindT x == 11) = false) (hhx : hadB (D) x = false) :
    Calls Try.prog 41 #[.pointer (some ⟨k, 0, none⟩), .slice (some ⟨g, o, none⟩) 1 cap] w fun e w' => e = .returned (.tuple #[]) ∧ Blk w' k 86 #[.map (some m), .map (some sb), keys] ∧ Had m (n + 1) ((D).put (.string x.data.toList) (.lit (.bool true))) w' ∧ Shut sb n2 E w' ∧ Only [m] w w' := by
  have HCL := hide (clone_strs w [m] (by intro x hx; simp at hx; subst hx; exact World.ownsMap.lt hh) g o cap [x] hv (by simp))
  have HKD := hide (fun W s h => Kind_any W s h)
  unfold KindPost at HKD
  have HK := hide hk; have HH := hide hh; have HS := hide hsh
  have c0 := hk.cell 0; have c1 := hk.cell 1; have c2 := hk.cell 2
  simp at c0 c1 c2
  clear hk hh hsh hv
  go_enter Try.func41, Try.ntmps41
  refine wp_scope_rounds 0 2 rfl ?_
  go_wp2_with (first
    | (go_at_call 65; refine HCL.out.mono ?_; rintro e w1 ⟨v, rfl, hrd, ho⟩; obtain ⟨A, cp, hv, hcc, hmm⟩ := hrd.form; replace hv : v = .slice A 1 cp := hv; subst hv; replace hcc : 1 ≤ cp := hcc; obtain ⟨gg, oo, rfl, _, _, y0⟩ := hrd.at_.2.2.2 0 (.string x) rfl; rw [Nat.add_zero] at y0; have hc0 : 0 ≤ cp := (by omega); have hci0 : (0 : Int) ≤ cp := (by omega);  replace HK := hide (HK.out.only ho (by simp)); replace HH := hide (HH.out.only ho (by simp)); replace HS := hide (HS.out.only ho (by simp)); have HO := hide (ho.mono (S' := [m]) (by simp)); have HRD := hide hrd; clear ho hrd c0 c1 c2; have c0 := HK.out.cell 0; have c1 := HK.out.cell 1; have c2 := HK.out.cell 2; simp at c0 c1 c2)
    | (at_lookup; refine wpList_lookup_had _ rfl _ _ 83 rfl _ _ _ rfl rfl (HH.out.run x hsx) ?_; rw [hhx])
    | (at_mapUpdate; refine wpList_mapUpdate_own _ rfl _ _ _ 83 rfl 9 4 (string_keyed Try.underlying9) Try.underlying83 (plainElem Try.prog 4) m (n) (D) rfl HH.out (by unfold maxLen; omega) (.string x) (.bool true) (.string x.data.toList) rfl rfl (keyOf_string_mk Try.underlying9 hsx) (.lit (.bool true)) [] (plainElem_bool Try.underlying4 true) ?_; intro w5 hown1 hgr1; have hoo : Only [m] _ w5 := (Only.refl [m] _).grown hgr1 (fun j hj => .inl (by cases hj; simp)); replace HK := hide (HK.out.only hoo (by simp; omega)); replace HS := hide (HS.out.only hoo (by simp; omega)); replace HO := hide (HO.out.trans (hoo.mono (by simp))); replace HH := hide (show Had m (n + 1) _ w5 from hown1); replace HRD := hide (HRD.out.only hoo (by simp)); clear hown1 hgr1 hoo; (first | (clear c0 c1 c2) | skip); have c0 := HK.out.cell 0; have c1 := HK.out.cell 1; have c2 := HK.out.cell 2; simp at c0 c1 c2; clear y0; obtain ⟨gg_, oo_, hAA, _, _, y0⟩ := HRD.out.at_.2.2.2 0 (.string x) rfl; cases hAA; rw [Nat.add_zero] at y0)
    | (go_at_call 39; (with_reducible refine (HKD.out _ x hsx).mono ?_); rintro e w3 ⟨rfl, ho⟩; replace HK := hide (HK.out.only ho (by simp)); replace HH := hide (HH.out.only ho (by simp)); replace HS := hide (HS.out.only ho (by simp)); replace HO := hide (HO.out.trans (ho.mono (by simp))); replace HRD := hide (HRD.out.only ho (by simp)); clear ho c0 c1 c2; have c0 := HK.out.cell 0; have c1 := HK.out.cell 1; have c2 := HK.out.cell 2; simp at c0 c1 c2; clear y0; obtain ⟨gg_, oo_, hAA, _, _, y0⟩ := HRD.out.at_.2.2.2 0 (.string x) rfl; cases hAA; rw [Nat.add_zero] at y0))
  go_step3
  go_wp2_with (first
    | (at_lookup; refine wpList_lookup_had _ rfl _ _ 83 rfl _ _ _ rfl rfl (HH.out.run x hsx) ?_; rw [hhx])
    | (at_mapUpdate; refine wpList_mapUpdate_own _ rfl _ _ _ 83 rfl 9 4 (string_keyed Try.underlying9) Try.underlying83 (plainElem Try.prog 4) m (n) (D) rfl HH.out (by unfold maxLen; omega) (.string x) (.bool true) (.string x.data.toList) rfl rfl (keyOf_string_mk Try.underlying9 hsx) (.lit (.bool true)) [] (plainElem_bool Try.underlying4 true) ?_; intro w5 hown1 hgr1; have hoo : Only [m] _ w5 := (Only.refl [m] _).grown hgr1 (fun j hj => .inl (by cases hj; simp)); replace HK := hide (HK.out.only hoo (by simp; omega)); replace HS := hide (HS.out.only hoo (by simp; omega)); replace HO := hide (HO.out.trans (hoo.mono (by simp))); replace HH := hide (show Had m (n + 1) _ w5 from hown1); replace HRD := hide (HRD.out.only hoo (by simp)); clear hown1 hgr1 hoo; (first | (clear c0 c1 c2) | skip); have c0 := HK.out.cell 0; have c1 := HK.out.cell 1; have c2 := HK.out.cell 2; simp at c0 c1 c2; clear y0; obtain ⟨gg_, oo_, hAA, _, _, y0⟩ := HRD.out.at_.2.2.2 0 (.string x) rfl; cases hAA; rw [Nat.add_zero] at y0)
    | (go_at_call 39; (with_reducible refine (HKD.out _ x hsx).mono ?_); rintro e w3 ⟨rfl, ho⟩; replace HK := hide (HK.out.only ho (by simp)); replace HH := hide (HH.out.only ho (by simp)); replace HS := hide (HS.out.only ho (by simp)); replace HO := hide (HO.out.trans (ho.mono (by simp))); replace HRD := hide (HRD.out.only ho (by simp)); clear ho c0 c1 c2; have c0 := HK.out.cell 0; have c1 := HK.out.cell 1; have c2 := HK.out.cell 2; simp at c0 c1 c2; clear y0; obtain ⟨gg_, oo_, hAA, _, _, y0⟩ := HRD.out.at_.2.2.2 0 (.string x) rfl; cases hAA; rw [Nat.add_zero] at y0))
  go_step3
  refine ⟨rfl, ?_⟩
  unfold JumpsN
  go_wp2_with fail
  simp only [Exit.jump]
  refine bodyPost_ret (results_none rfl _ _ _) rfl ?_
  exact ⟨rfl, HK.out, HH.out, HS.out, HO.out⟩
set_option maxRecDepth 100000 in
set_option maxHeartbeats 6400000 in
theorem have_two (w : World) (k m n sb n2 : Nat) (D E : DataW Unit) (keys : Value) (g o cap : Nat) (x y : ByteArray) (hk : Blk w k 86 #[.map (some m), .map (some sb), keys]) (hh : Had m n D w) (hsh : Shut sb n2 E w) (hkm : k ≠ m) (hks : k ≠ sb) (hms : m ≠ sb) (hn : n ≤ 1000)
    (hv : Rd w [] (.slice (some ⟨g, o, none⟩) 2 cap) (strs [x, y])) (hsx : x.size ≤ maxLen) (e10x : (kindT x == 10) = false) (e11x : (kindT x == 11) = false) (hhx : hadB ((D).put (.string y.data.toList) (.lit (.bool true))) x = false) (hsy : y.size ≤ maxLen) (e10y : (kindT y == 10) = false) (e11y : (kindT y == 11) = false) (hhy : hadB (D) y = false) :
    Calls Try.prog 41 #[.pointer (some ⟨k, 0, none⟩), .slice (some ⟨g, o, none⟩) 2 cap] w fun e w' => e = .returned (.tuple #[]) ∧ Blk w' k 86 #[.map (some m), .map (some sb), keys] ∧ Had m (n + 1 + 1) (((D).put (.string y.data.toList) (.lit (.bool true))).put (.string x.data.toList) (.lit (.bool true))) w' ∧ Shut sb n2 E w' ∧ Only [m] w w' := by
  have HCL := hide (clone_strs w [m] (by intro x hx; simp at hx; subst hx; exact World.ownsMap.lt hh) g o cap [x, y] hv (by simp))
  have HKD := hide (fun W s h => Kind_any W s h)
  unfold KindPost at HKD
  have HK := hide hk; have HH := hide hh; have HS := hide hsh
  have c0 := hk.cell 0; have c1 := hk.cell 1; have c2 := hk.cell 2
  simp at c0 c1 c2
  clear hk hh hsh hv
  go_enter Try.func41, Try.ntmps41
  refine wp_scope_rounds 0 3 rfl ?_
  go_wp2_with (first
    | (go_at_call 65; refine HCL.out.mono ?_; rintro e w1 ⟨v, rfl, hrd, ho⟩; obtain ⟨A, cp, hv, hcc, hmm⟩ := hrd.form; replace hv : v = .slice A 2 cp := hv; subst hv; replace hcc : 2 ≤ cp := hcc; obtain ⟨gg, oo, rfl, _, _, y0⟩ := hrd.at_.2.2.2 0 (.string x) rfl; rw [Nat.add_zero] at y0; obtain ⟨gg_, oo_, hAA, _, _, y1⟩ := hrd.at_.2.2.2 1 (.string y) rfl; cases hAA; have hc0 : 0 ≤ cp := (by omega); have hci0 : (0 : Int) ≤ cp := (by omega); have hc1 : 1 ≤ cp := (by omega); have hci1 : (1 : Int) ≤ cp := (by omega);  replace HK := hide (HK.out.only ho (by simp)); replace HH := hide (HH.out.only ho (by simp)); replace HS := hide (HS.out.only ho (by simp)); have HO := hide (ho.mono (S' := [m]) (by simp)); have HRD := hide hrd; clear ho hrd c0 c1 c2; have c0 := HK.out.cell 0; have c1 := HK.out.cell 1; have c2 := HK.out.cell 2; simp at c0 c1 c2)
    | (at_lookup; refine wpList_lookup_had _ rfl _ _ 83 rfl _ _ _ rfl rfl (HH.out.run y hsy) ?_; rw [hhy])
    | (at_mapUpdate; refine wpList_mapUpdate_own _ rfl _ _ _ 83 rfl 9 4 (string_keyed Try.underlying9) Try.underlying83 (plainElem Try.prog 4) m (n) (D) rfl HH.out (by unfold maxLen; omega) (.string y) (.bool true) (.string y.data.toList) rfl rfl (keyOf_string_mk Try.underlying9 hsy) (.lit (.bool true)) [] (plainElem_bool Try.underlying4 true) ?_; intro w5 hown1 hgr1; have hoo : Only [m] _ w5 := (Only.refl [m] _).grown hgr1 (fun j hj => .inl (by cases hj; simp)); replace HK := hide (HK.out.only hoo (by simp; omega)); replace HS := hide (HS.out.only hoo (by simp; omega)); replace HO := hide (HO.out.trans (hoo.mono (by simp))); replace HH := hide (show Had m (n + 1) _ w5 from hown1); replace HRD := hide (HRD.out.only hoo (by simp)); clear hown1 hgr1 hoo; (first | (clear c0 c1 c2) | skip); have c0 := HK.out.cell 0; have c1 := HK.out.cell 1; have c2 := HK.out.cell 2; simp at c0 c1 c2; clear y0 y1; obtain ⟨gg_, oo_, hAA, _, _, y0⟩ := HRD.out.at_.2.2.2 0 (.string x) rfl; cases hAA; obtain ⟨gg_, oo_, hAA, _, _, y1⟩ := HRD.out.at_.2.2.2 1 (.string y) rfl; cases hAA; rw [Nat.add_zero] at y0)
    | (at_lookup; refine wpList_lookup_had _ rfl _ _ 83 rfl _ _ _ rfl rfl (HH.out.run x hsx) ?_; rw [hhx])
    | (at_mapUpdate; refine wpList_mapUpdate_own _ rfl _ _ _ 83 rfl 9 4 (string_keyed Try.underlying9) Try.underlying83 (plainElem Try.prog 4) m (n + 1) ((D).put (.string y.data.toList) (.lit (.bool true))) rfl HH.out (by unfold maxLen; omega) (.string x) (.bool true) (.string x.data.toList) rfl rfl (keyOf_string_mk Try.underlying9 hsx) (.lit (.bool true)) [] (plainElem_bool Try.underlying4 true) ?_; intro w5 hown1 hgr1; have hoo : Only [m] _ w5 := (Only.refl [m] _).grown hgr1 (fun j hj => .inl (by cases hj; simp)); replace HK := hide (HK.out.only hoo (by simp; omega)); replace HS := hide (HS.out.only hoo (by simp; omega)); replace HO := hide (HO.out.trans (hoo.mono (by simp))); replace HH := hide (show Had m (n + 1 + 1) _ w5 from hown1); replace HRD := hide (HRD.out.only hoo (by simp)); clear hown1 hgr1 hoo; (first | (clear c0 c1 c2) | skip); have c0 := HK.out.cell 0; have c1 := HK.out.cell 1; have c2 := HK.out.cell 2; simp at c0 c1 c2; clear y0 y1; obtain ⟨gg_, oo_, hAA, _, _, y0⟩ := HRD.out.at_.2.2.2 0 (.string x) rfl; cases hAA; obtain ⟨gg_, oo_, hAA, _, _, y1⟩ := HRD.out.at_.2.2.2 1 (.string y) rfl; cases hAA; rw [Nat.add_zero] at y0)
    | (go_at_call 39; (with_reducible refine (HKD.out _ x hsx).mono ?_); rintro e w3 ⟨rfl, ho⟩; replace HK := hide (HK.out.only ho (by simp)); replace HH := hide (HH.out.only ho (by simp)); replace HS := hide (HS.out.only ho (by simp)); replace HO := hide (HO.out.trans (ho.mono (by simp))); replace HRD := hide (HRD.out.only ho (by simp)); clear ho c0 c1 c2; have c0 := HK.out.cell 0; have c1 := HK.out.cell 1; have c2 := HK.out.cell 2; simp at c0 c1 c2; clear y0 y1; obtain ⟨gg_, oo_, hAA, _, _, y0⟩ := HRD.out.at_.2.2.2 0 (.string x) rfl; cases hAA; obtain ⟨gg_, oo_, hAA, _, _, y1⟩ := HRD.out.at_.2.2.2 1 (.string y) rfl; cases hAA; rw [Nat.add_zero] at y0)
    | (go_at_call 39; (with_reducible refine (HKD.out _ y hsy).mono ?_); rintro e w3 ⟨rfl, ho⟩; replace HK := hide (HK.out.only ho (by simp)); replace HH := hide (HH.out.only ho (by simp)); replace HS := hide (HS.out.only ho (by simp)); replace HO := hide (HO.out.trans (ho.mono (by simp))); replace HRD := hide (HRD.out.only ho (by simp)); clear ho c0 c1 c2; have c0 := HK.out.cell 0; have c1 := HK.out.cell 1; have c2 := HK.out.cell 2; simp at c0 c1 c2; clear y0 y1; obtain ⟨gg_, oo_, hAA, _, _, y0⟩ := HRD.out.at_.2.2.2 0 (.string x) rfl; cases hAA; obtain ⟨gg_, oo_, hAA, _, _, y1⟩ := HRD.out.at_.2.2.2 1 (.string y) rfl; cases hAA; rw [Nat.add_zero] at y0))
  go_step3
  go_wp2_with (first
    | (at_lookup; refine wpList_lookup_had _ rfl _ _ 83 rfl _ _ _ rfl rfl (HH.out.run y hsy) ?_; rw [hhy])
    | (at_mapUpdate; refine wpList_mapUpdate_own _ rfl _ _ _ 83 rfl 9 4 (string_keyed Try.underlying9) Try.underlying83 (plainElem Try.prog 4) m (n) (D) rfl HH.out (by unfold maxLen; omega) (.string y) (.bool true) (.string y.data.toList) rfl rfl (keyOf_string_mk Try.underlying9 hsy) (.lit (.bool true)) [] (plainElem_bool Try.underlying4 true) ?_; intro w5 hown1 hgr1; have hoo : Only [m] _ w5 := (Only.refl [m] _).grown hgr1 (fun j hj => .inl (by cases hj; simp)); replace HK := hide (HK.out.only hoo (by simp; omega)); replace HS := hide (HS.out.only hoo (by simp; omega)); replace HO := hide (HO.out.trans (hoo.mono (by simp))); replace HH := hide (show Had m (n + 1) _ w5 from hown1); replace HRD := hide (HRD.out.only hoo (by simp)); clear hown1 hgr1 hoo; (first | (clear c0 c1 c2) | skip); have c0 := HK.out.cell 0; have c1 := HK.out.cell 1; have c2 := HK.out.cell 2; simp at c0 c1 c2; clear y0 y1; obtain ⟨gg_, oo_, hAA, _, _, y0⟩ := HRD.out.at_.2.2.2 0 (.string x) rfl; cases hAA; obtain ⟨gg_, oo_, hAA, _, _, y1⟩ := HRD.out.at_.2.2.2 1 (.string y) rfl; cases hAA; rw [Nat.add_zero] at y0)
    | (at_lookup; refine wpList_lookup_had _ rfl _ _ 83 rfl _ _ _ rfl rfl (HH.out.run x hsx) ?_; rw [hhx])
    | (at_mapUpdate; refine wpList_mapUpdate_own _ rfl _ _ _ 83 rfl 9 4 (string_keyed Try.underlying9) Try.underlying83 (plainElem Try.prog 4) m (n + 1) ((D).put (.string y.data.toList) (.lit (.bool true))) rfl HH.out (by unfold maxLen; omega) (.string x) (.bool true) (.string x.data.toList) rfl rfl (keyOf_string_mk Try.underlying9 hsx) (.lit (.bool true)) [] (plainElem_bool Try.underlying4 true) ?_; intro w5 hown1 hgr1; have hoo : Only [m] _ w5 := (Only.refl [m] _).grown hgr1 (fun j hj => .inl (by cases hj; simp)); replace HK := hide (HK.out.only hoo (by simp; omega)); replace HS := hide (HS.out.only hoo (by simp; omega)); replace HO := hide (HO.out.trans (hoo.mono (by simp))); replace HH := hide (show Had m (n + 1 + 1) _ w5 from hown1); replace HRD := hide (HRD.out.only hoo (by simp)); clear hown1 hgr1 hoo; (first | (clear c0 c1 c2) | skip); have c0 := HK.out.cell 0; have c1 := HK.out.cell 1; have c2 := HK.out.cell 2; simp at c0 c1 c2; clear y0 y1; obtain ⟨gg_, oo_, hAA, _, _, y0⟩ := HRD.out.at_.2.2.2 0 (.string x) rfl; cases hAA; obtain ⟨gg_, oo_, hAA, _, _, y1⟩ := HRD.out.at_.2.2.2 1 (.string y) rfl; cases hAA; rw [Nat.add_zero] at y0)
    | (go_at_call 39; (with_reducible refine (HKD.out _ x hsx).mono ?_); rintro e w3 ⟨rfl, ho⟩; replace HK := hide (HK.out.only ho (by simp)); replace HH := hide (HH.out.only ho (by simp)); replace HS := hide (HS.out.only ho (by simp)); replace HO := hide (HO.out.trans (ho.mono (by simp))); replace HRD := hide (HRD.out.only ho (by simp)); clear ho c0 c1 c2; have c0 := HK.out.cell 0; have c1 := HK.out.cell 1; have c2 := HK.out.cell 2; simp at c0 c1 c2; clear y0 y1; obtain ⟨gg_, oo_, hAA, _, _, y0⟩ := HRD.out.at_.2.2.2 0 (.string x) rfl; cases hAA; obtain ⟨gg_, oo_, hAA, _, _, y1⟩ := HRD.out.at_.2.2.2 1 (.string y) rfl; cases hAA; rw [Nat.add_zero] at y0)
    | (go_at_call 39; (with_reducible refine (HKD.out _ y hsy).mono ?_); rintro e w3 ⟨rfl, ho⟩; replace HK := hide (HK.out.only ho (by simp)); replace HH := hide (HH.out.only ho (by simp)); replace HS := hide (HS.out.only ho (by simp)); replace HO := hide (HO.out.trans (ho.mono (by simp))); replace HRD := hide (HRD.out.only ho (by simp)); clear ho c0 c1 c2; have c0 := HK.out.cell 0; have c1 := HK.out.cell 1; have c2 := HK.out.cell 2; simp at c0 c1 c2; clear y0 y1; obtain ⟨gg_, oo_, hAA, _, _, y0⟩ := HRD.out.at_.2.2.2 0 (.string x) rfl; cases hAA; obtain ⟨gg_, oo_, hAA, _, _, y1⟩ := HRD.out.at_.2.2.2 1 (.string y) rfl; cases hAA; rw [Nat.add_zero] at y0))
  go_step3
  refine ⟨rfl, ?_⟩
  unfold JumpsN
  go_wp2_with (first
    | (at_lookup; refine wpList_lookup_had _ rfl _ _ 83 rfl _ _ _ rfl rfl (HH.out.run y hsy) ?_; rw [hhy])
    | (at_mapUpdate; refine wpList_mapUpdate_own _ rfl _ _ _ 83 rfl 9 4 (string_keyed Try.underlying9) Try.underlying83 (plainElem Try.prog 4) m (n) (D) rfl HH.out (by unfold maxLen; omega) (.string y) (.bool true) (.string y.data.toList) rfl rfl (keyOf_string_mk Try.underlying9 hsy) (.lit (.bool true)) [] (plainElem_bool Try.underlying4 true) ?_; intro w5 hown1 hgr1; have hoo : Only [m] _ w5 := (Only.refl [m] _).grown hgr1 (fun j hj => .inl (by cases hj; simp)); replace HK := hide (HK.out.only hoo (by simp; omega)); replace HS := hide (HS.out.only hoo (by simp; omega)); replace HO := hide (HO.out.trans (hoo.mono (by simp))); replace HH := hide (show Had m (n + 1) _ w5 from hown1); replace HRD := hide (HRD.out.only hoo (by simp)); clear hown1 hgr1 hoo; (first | (clear c0 c1 c2) | skip); have c0 := HK.out.cell 0; have c1 := HK.out.cell 1; have c2 := HK.out.cell 2; simp at c0 c1 c2; clear y0 y1; obtain ⟨gg_, oo_, hAA, _, _, y0⟩ := HRD.out.at_.2.2.2 0 (.string x) rfl; cases hAA; obtain ⟨gg_, oo_, hAA, _, _, y1⟩ := HRD.out.at_.2.2.2 1 (.string y) rfl; cases hAA; rw [Nat.add_zero] at y0)
    | (at_lookup; refine wpList_lookup_had _ rfl _ _ 83 rfl _ _ _ rfl rfl (HH.out.run x hsx) ?_; rw [hhx])
    | (at_mapUpdate; refine wpList_mapUpdate_own _ rfl _ _ _ 83 rfl 9 4 (string_keyed Try.underlying9) Try.underlying83 (plainElem Try.prog 4) m (n + 1) ((D).put (.string y.data.toList) (.lit (.bool true))) rfl HH.out (by unfold maxLen; omega) (.string x) (.bool true) (.string x.data.toList) rfl rfl (keyOf_string_mk Try.underlying9 hsx) (.lit (.bool true)) [] (plainElem_bool Try.underlying4 true) ?_; intro w5 hown1 hgr1; have hoo : Only [m] _ w5 := (Only.refl [m] _).grown hgr1 (fun j hj => .inl (by cases hj; simp)); replace HK := hide (HK.out.only hoo (by simp; omega)); replace HS := hide (HS.out.only hoo (by simp; omega)); replace HO := hide (HO.out.trans (hoo.mono (by simp))); replace HH := hide (show Had m (n + 1 + 1) _ w5 from hown1); replace HRD := hide (HRD.out.only hoo (by simp)); clear hown1 hgr1 hoo; (first | (clear c0 c1 c2) | skip); have c0 := HK.out.cell 0; have c1 := HK.out.cell 1; have c2 := HK.out.cell 2; simp at c0 c1 c2; clear y0 y1; obtain ⟨gg_, oo_, hAA, _, _, y0⟩ := HRD.out.at_.2.2.2 0 (.string x) rfl; cases hAA; obtain ⟨gg_, oo_, hAA, _, _, y1⟩ := HRD.out.at_.2.2.2 1 (.string y) rfl; cases hAA; rw [Nat.add_zero] at y0)
    | (go_at_call 39; (with_reducible refine (HKD.out _ x hsx).mono ?_); rintro e w3 ⟨rfl, ho⟩; replace HK := hide (HK.out.only ho (by simp)); replace HH := hide (HH.out.only ho (by simp)); replace HS := hide (HS.out.only ho (by simp)); replace HO := hide (HO.out.trans (ho.mono (by simp))); replace HRD := hide (HRD.out.only ho (by simp)); clear ho c0 c1 c2; have c0 := HK.out.cell 0; have c1 := HK.out.cell 1; have c2 := HK.out.cell 2; simp at c0 c1 c2; clear y0 y1; obtain ⟨gg_, oo_, hAA, _, _, y0⟩ := HRD.out.at_.2.2.2 0 (.string x) rfl; cases hAA; obtain ⟨gg_, oo_, hAA, _, _, y1⟩ := HRD.out.at_.2.2.2 1 (.string y) rfl; cases hAA; rw [Nat.add_zero] at y0)
    | (go_at_call 39; (with_reducible refine (HKD.out _ y hsy).mono ?_); rintro e w3 ⟨rfl, ho⟩; replace HK := hide (HK.out.only ho (by simp)); replace HH := hide (HH.out.only ho (by simp)); replace HS := hide (HS.out.only ho (by simp)); replace HO := hide (HO.out.trans (ho.mono (by simp))); replace HRD := hide (HRD.out.only ho (by simp)); clear ho c0 c1 c2; have c0 := HK.out.cell 0; have c1 := HK.out.cell 1; have c2 := HK.out.cell 2; simp at c0 c1 c2; clear y0 y1; obtain ⟨gg_, oo_, hAA, _, _, y0⟩ := HRD.out.at_.2.2.2 0 (.string x) rfl; cases hAA; obtain ⟨gg_, oo_, hAA, _, _, y1⟩ := HRD.out.at_.2.2.2 1 (.string y) rfl; cases hAA; rw [Nat.add_zero] at y0))
  go_step3
  refine ⟨rfl, ?_⟩
  unfold JumpsN
  go_wp2_with fail
  simp only [Exit.jump]
  refine bodyPost_ret (results_none rfl _ _ _) rfl ?_
  exact ⟨rfl, HK.out, HH.out, HS.out, HO.out⟩
end
section
open Go.RowKit Go.Deep

def hd (n : Nat) : UInt8 := if n < 10 then UInt8.ofNat (48 + n) else UInt8.ofNat (87 + n)
end
section
open Go.RowKit Go.Deep

/-- Two parts of a Dh that stand in the wrong order. -/
def wrong (k : Int) (l : List ByteArray) : Prop := k = 6 ∧ l.length = 2 ∧ gtB (l.getD 0 ByteArray.empty) (l.getD 1 ByteArray.empty) = true
instance (k : Int) (l : List ByteArray) : Decidable (wrong k l) := by unfold wrong; exact inferInstance
/-- May a term be of this kind and number, and have these parts? -/
def okV (k : Int) (n : Nat) (l : List ByteArray) : Prop := (numberedV k = true → allowedV k n = true) ∧ fitsV k l.length = true ∧ ¬ wrong k l
instance (k : Int) (n : Nat) (l : List ByteArray) : Decidable (okV k n l) := by unfold okV; exact inferInstance
end
section
open Go.RowKit Go.Deep

def parT (s : ByteArray) : List ByteArray := match parseV s with | none => [] | some nd => nd.2.2.2
def PartsPost (r : List ByteArray) (w : World) (e : Ending) (w' : World) : Prop :=
  ∃ v, e = .returned v ∧ Only [] w w' ∧ ∀ N : List Nat, (∀ x ∈ N, x < w.heap.size) → Rd w' N v (strs r)
theorem partspost {r l : List ByteArray} {v : Value} {w w' : World} (h : r = l) (ho : Only [] w w') (hr : ∀ N : List Nat, (∀ x ∈ N, x < w.heap.size) → Rd w' N v (strs l)) :
    PartsPost r w (.returned v) w' := by subst h; exact ⟨_, rfl, ho, hr⟩
set_option maxRecDepth 100000 in
set_option maxHeartbeats 3200000 in
theorem Parts_any (w : World) (s : ByteArray) (hs : s.size ≤ maxLen) : Calls Try.prog 66 #[.string s] w (PartsPost (parT s) w) := by
  have HP := hide (parse_any w s hs)
  cases hp : parseV s with
  | none =>
    rw [hp] at HP
    have HV := hide (show parT s = [] by unfold parT; rw [hp])
    clear hp
    go_enter Try.func66, Try.ntmps66
    go_wp2_with (go_at_call 64; refine HP.out.mono ?_; rintro e w1 ⟨rfl, ho⟩; unfold nd0; have HO := hide ho; clear ho)
    go_ret
    exact partspost HV.out (HO.out.alloc _) (fun N _ => Rd.nil _ N)
  | some nd =>
    obtain ⟨k, n, bs, parts⟩ := nd
    rw [hp] at HP
    have HV := hide (show parT s = parts by unfold parT; rw [hp])
    clear hp
    go_enter Try.func66, Try.ntmps66
    go_wp2_with (go_at_call 64; refine HP.out.mono ?_; rintro e w1 ⟨bv, pv, rfl, ho, hb, hp⟩; obtain ⟨A, cap, rfl, _, _⟩ := (hb [] (by simp)).formb; obtain ⟨A2, cap2, rfl, _, _⟩ := (hp [] (by simp)).form; have HO := hide ho; have HRP := hide hp; clear ho hb hp)
    go_ret
    exact partspost HV.out (HO.out.alloc _) (fun N hN => (HRP.out N hN).only ((Only.refl [] _).alloc _) (by simp))
end
section
open Go.RowKit Go.Deep Go.Maps Go.WideMaps

theorem sliceElem_at (b o n c : Nat) : sliceElem (.slice (some ⟨b, o, none⟩) n c) = some (.agg [.lit (.int .i64 b), .lit (.int .i64 o), .lit (.int .i64 n), .lit (.int .i64 c)], []) := rfl
theorem sliceElem_inv {v : Value} {b o n c : Nat} {ps : List MemPlace} (h : sliceElem v = some (.agg [.lit (.int .i64 b), .lit (.int .i64 o), .lit (.int .i64 n), .lit (.int .i64 c)], ps)) : v = .slice (some ⟨b, o, none⟩) n c := by
  unfold sliceElem at h
  split at h
  · simp only [Option.some.injEq, Prod.mk.injEq, DataW.agg.injEq, List.cons.injEq, DataW.lit.injEq, Lit.int.injEq, true_and, and_true] at h
    obtain ⟨⟨h1, h2, h3, h4⟩, _⟩ := h
    have e1 := Int.ofNat.inj h1; have e2 := Int.ofNat.inj h2; have e3 := Int.ofNat.inj h3; have e4 := Int.ofNat.inj h4
    subst e1 e2 e3 e4
    rfl
  · simp at h
  · cases h
theorem sliceElem_nil {v : Value} {ps : List MemPlace} (h : sliceElem v = some (.nil, ps)) : v = .slice none 0 0 := by
  unfold sliceElem at h
  split at h
  · simp at h
  · rfl
  · cases h
/-- A look-up where nothing is sealed. -/
theorem Shut.at_nil {sb n : Nat} {w : World} (h : Shut sb n (.map []) w) (s : ByteArray) (hs : s.size ≤ maxLen) : (Instr.lookup 84 (.map (some sb)) (.string s) false).run Try.prog w = .ok (.slice none 0 0) w := by
  obtain ⟨v, ps, hrun, hv⟩ := World.ownsMap.lookup h (string_keyed Try.underlying9) Try.underlying84 (z := .slice none 0 0) (by kernel_rfl) (zd := .nil) (zp := []) rfl (keyOf_string_mk Try.underlying9 hs)
  rw [show (DataW.map (H := Unit) []).atKey (.string s.data.toList) .nil = .nil from rfl] at hv
  rw [hrun, sliceElem_nil hv]
/-- .. and where one key has seals. -/
theorem Shut.at_one {sb n b o l c : Nat} {w : World} {s : ByteArray} (h : Shut sb n ((DataW.map []).put (.string s.data.toList) (.agg [.lit (.int .i64 b), .lit (.int .i64 o), .lit (.int .i64 l), .lit (.int .i64 c)])) w) (hs : s.size ≤ maxLen) : (Instr.lookup 84 (.map (some sb)) (.string s) false).run Try.prog w = .ok (.slice (some ⟨b, o, none⟩) l c) w := by
  obtain ⟨v, ps, hrun, hv⟩ := World.ownsMap.lookup h (string_keyed Try.underlying9) Try.underlying84 (z := .slice none 0 0) (by kernel_rfl) (zd := .nil) (zp := []) rfl (keyOf_string_mk Try.underlying9 hs)
  rw [show (((DataW.map (H := Unit) []).put (.string s.data.toList) (.agg [.lit (.int .i64 b), .lit (.int .i64 o), .lit (.int .i64 l), .lit (.int .i64 c)])).atKey (.string s.data.toList) .nil) = (.agg [.lit (.int .i64 b), .lit (.int .i64 o), .lit (.int .i64 l), .lit (.int .i64 c)]) from by simp [DataW.put, DataW.atKey, DataW.insert, Lit.sameKey]] at hv
  rw [hrun, sliceElem_inv hv]
end
section
open Go.RowKit Go.Deep Go.Maps Go.WideMaps

def SealPost (k m n sb : Nat) (D : DataW Unit) (s a p0 p1 : ByteArray) (w : World) (e : Ending) (w' : World) : Prop :=
  e = .returned (.tuple #[]) ∧ ∃ g1 c1 g2 c2, Blk w' k 86 #[.map (some m), .map (some sb), .slice (some ⟨g1, 0, none⟩) 1 c1] ∧ Had m (n + 1 + 1) (((D).put (.string a.data.toList) (.lit (.bool true))).put (.string s.data.toList) (.lit (.bool true))) w' ∧
      Shut sb 1 ((DataW.map []).put (.string p0.data.toList) (.agg [.lit (.int .i64 (g2 : Nat)), .lit (.int .i64 (0 : Nat)), .lit (.int .i64 (1 : Nat)), .lit (.int .i64 (c2 : Nat))])) w' ∧ Rd w' [k, m, sb] (.slice (some ⟨g1, 0, none⟩) 1 c1) (strs [p0]) ∧ Rd w' [k, m, sb] (.slice (some ⟨g2, 0, none⟩) 1 c2) (strs [p1]) ∧ Only [k, m, sb] w w'
set_option maxRecDepth 100000 in
set_option maxHeartbeats 6400000 in
theorem have_seal (w : World) (k m n sb : Nat) (D : DataW Unit) (g o cap : Nat) (s a p0 p1 p2 : ByteArray) (hk : Blk w k 86 #[.map (some m), .map (some sb), .slice none 0 0]) (hh : Had m n D w) (hsh : Shut sb 0 (.map []) w) (hkm : k ≠ m) (hks : k ≠ sb) (hms : m ≠ sb) (hn : n ≤ 1000)
    (hv : Rd w [] (.slice (some ⟨g, o, none⟩) 2 cap) (strs [s, a])) (hsa : a.size ≤ maxLen) (hss : s.size ≤ maxLen) (e10a : (kindT a == 10) = false) (e11a : (kindT a == 11) = false) (hha : hadB D a = false) (e10s : (kindT s == 10) = true) (e11s : (kindT s == 11) = false) (hhs : hadB ((D).put (.string a.data.toList) (.lit (.bool true))) s = false)
    (hpt : parT s = [p0, p1, p2]) (hp0 : p0.size ≤ maxLen) (hp1 : p1.size ≤ maxLen) :
    Calls Try.prog 41 #[.pointer (some ⟨k, 0, none⟩), .slice (some ⟨g, o, none⟩) 2 cap] w (SealPost k m n sb D s a p0 p1 w) := by
  have HCL := hide (clone_strs w [m] (by intro x hx; simp at hx; subst hx; exact World.ownsMap.lt hh) g o cap [s, a] hv (by simp))
  have HKD := hide (fun W s h => Kind_any W s h)
  unfold KindPost at HKD
  have HPT := hide (fun W => Parts_any W s hss)
  unfold PartsPost at HPT
  rw [hpt] at HPT
  obtain ⟨is, his, hs0, hs1, hs2⟩ := info_parts info_string
  have HK := hide hk; have HH := hide hh; have HS := hide hsh
  have HLT := hide (show k < w.heap.size ∧ m < w.heap.size ∧ sb < w.heap.size from ⟨hk.lt, World.ownsMap.lt hh, World.ownsMap.lt hsh⟩)
  have c0 := hk.cell 0; have c1 := hk.cell 1; have c2 := hk.cell 2
  simp at c0 c1 c2
  clear hk hh hsh hv hpt
  go_enter Try.func41, Try.ntmps41
  refine wp_scope_rounds 0 3 rfl ?_
  go_wp2_with (go_at_call 65; refine HCL.out.mono ?_; rintro e w1 ⟨v, rfl, hrd, ho⟩; obtain ⟨A, cp, hv, hcc, hmm⟩ := hrd.form; replace hv : v = .slice A 2 cp := hv; subst hv; replace hcc : 2 ≤ cp := hcc; obtain ⟨gg, oo, rfl, _, _, y0⟩ := hrd.at_.2.2.2 0 (.string s) rfl; rw [Nat.add_zero] at y0; obtain ⟨gg_, oo_, hAA, _, _, y1⟩ := hrd.at_.2.2.2 1 (.string a) rfl; cases hAA; have hc0 : 0 ≤ cp := (by omega); have hci0 : (0 : Int) ≤ cp := (by omega); have hc1 : 1 ≤ cp := (by omega); have hci1 : (1 : Int) ≤ cp := (by omega); replace HK := hide (HK.out.only ho (by simp)); replace HH := hide (HH.out.only ho (by simp)); replace HS := hide (HS.out.only ho (by simp)); have HO := hide (ho.mono (S' := [m]) (by simp)); have HRD := hide hrd; clear ho hrd; clear c0 c1 c2; have c0 := HK.out.cell 0; have c1 := HK.out.cell 1; have c2 := HK.out.cell 2; simp at c0 c1 c2)
  go_step3
  go_wp2_with (first
    | (at_lookup; refine wpList_lookup_had _ rfl _ _ 83 rfl _ _ _ rfl rfl (HH.out.run a hsa) ?_; rw [hha])
    | (at_mapUpdate; refine wpList_mapUpdate_own _ rfl _ _ _ 83 rfl 9 4 (string_keyed Try.underlying9) Try.underlying83 (plainElem Try.prog 4) m (n) (D) rfl HH.out (by unfold maxLen; omega) (.string a) (.bool true) (.string a.data.toList) rfl rfl (keyOf_string_mk Try.underlying9 hsa) (.lit (.bool true)) [] (plainElem_bool Try.underlying4 true) ?_; intro w5 hown1 hgr1; have hoo : Only [m] _ w5 := (Only.refl [m] _).grown hgr1 (fun j hj => .inl (by cases hj; simp)); replace HK := hide (HK.out.only hoo (by simp; omega)); replace HS := hide (HS.out.only hoo (by simp; omega)); replace HO := hide (HO.out.trans (hoo.mono (by simp))); replace HH := hide (show Had m (n + 1) _ w5 from hown1); replace HRD := hide (HRD.out.only hoo (by simp)); clear hown1 hgr1 hoo; (first | (clear c0 c1 c2) | skip); have c0 := HK.out.cell 0; have c1 := HK.out.cell 1; have c2 := HK.out.cell 2; simp at c0 c1 c2; clear y0 y1; obtain ⟨gg_, oo_, hAA, _, _, y0⟩ := HRD.out.at_.2.2.2 0 (.string s) rfl; cases hAA; obtain ⟨gg_, oo_, hAA, _, _, y1⟩ := HRD.out.at_.2.2.2 1 (.string a) rfl; cases hAA; rw [Nat.add_zero] at y0)
    | (at_lookup; refine wpList_lookup_had _ rfl _ _ 83 rfl _ _ _ rfl rfl (HH.out.run s hss) ?_; rw [hhs])
    | (at_mapUpdate; refine wpList_mapUpdate_own _ rfl _ _ _ 83 rfl 9 4 (string_keyed Try.underlying9) Try.underlying83 (plainElem Try.prog 4) m (n + 1) ((D).put (.string a.data.toList) (.lit (.bool true))) rfl HH.out (by unfold maxLen; omega) (.string s) (.bool true) (.string s.data.toList) rfl rfl (keyOf_string_mk Try.underlying9 hss) (.lit (.bool true)) [] (plainElem_bool Try.underlying4 true) ?_; intro w5 hown1 hgr1; have hoo : Only [m] _ w5 := (Only.refl [m] _).grown hgr1 (fun j hj => .inl (by cases hj; simp)); replace HK := hide (HK.out.only hoo (by simp; omega)); replace HS := hide (HS.out.only hoo (by simp; omega)); replace HO := hide (HO.out.trans (hoo.mono (by simp))); replace HH := hide (show Had m (n + 1 + 1) _ w5 from hown1); replace HRD := hide (HRD.out.only hoo (by simp)); clear hown1 hgr1 hoo; (first | (clear c0 c1 c2) | skip); have c0 := HK.out.cell 0; have c1 := HK.out.cell 1; have c2 := HK.out.cell 2; simp at c0 c1 c2; clear y0 y1; obtain ⟨gg_, oo_, hAA, _, _, y0⟩ := HRD.out.at_.2.2.2 0 (.string s) rfl; cases hAA; obtain ⟨gg_, oo_, hAA, _, _, y1⟩ := HRD.out.at_.2.2.2 1 (.string a) rfl; cases hAA; rw [Nat.add_zero] at y0)
    | (go_at_call 39; (with_reducible refine (HKD.out _ s hss).mono ?_); rintro e w3 ⟨rfl, ho⟩; replace HK := hide (HK.out.only ho (by simp)); replace HH := hide (HH.out.only ho (by simp)); replace HS := hide (HS.out.only ho (by simp)); replace HO := hide (HO.out.trans (ho.mono (by simp))); replace HRD := hide (HRD.out.only ho (by simp)); clear ho c0 c1 c2; have c0 := HK.out.cell 0; have c1 := HK.out.cell 1; have c2 := HK.out.cell 2; simp at c0 c1 c2; clear y0 y1; obtain ⟨gg_, oo_, hAA, _, _, y0⟩ := HRD.out.at_.2.2.2 0 (.string s) rfl; cases hAA; obtain ⟨gg_, oo_, hAA, _, _, y1⟩ := HRD.out.at_.2.2.2 1 (.string a) rfl; cases hAA; rw [Nat.add_zero] at y0)
    | (go_at_call 39; (with_reducible refine (HKD.out _ a hsa).mono ?_); rintro e w3 ⟨rfl, ho⟩; replace HK := hide (HK.out.only ho (by simp)); replace HH := hide (HH.out.only ho (by simp)); replace HS := hide (HS.out.only ho (by simp)); replace HO := hide (HO.out.trans (ho.mono (by simp))); replace HRD := hide (HRD.out.only ho (by simp)); clear ho c0 c1 c2; have c0 := HK.out.cell 0; have c1 := HK.out.cell 1; have c2 := HK.out.cell 2; simp at c0 c1 c2; clear y0 y1; obtain ⟨gg_, oo_, hAA, _, _, y0⟩ := HRD.out.at_.2.2.2 0 (.string s) rfl; cases hAA; obtain ⟨gg_, oo_, hAA, _, _, y1⟩ := HRD.out.at_.2.2.2 1 (.string a) rfl; cases hAA; rw [Nat.add_zero] at y0))
  go_step3
  refine ⟨rfl, ?_⟩
  unfold JumpsN
  go_wp2_with (first
    | (go_at_call 66; refine (HPT.out _).mono ?_; rintro e w4 ⟨v2, rfl, ho, hrd2⟩; have HRP := hide (hrd2 [k, m, sb] (by have h1 := HK.out.lt; have h2 := World.ownsMap.lt HH.out; have h3 := World.ownsMap.lt HS.out; intro x hx; simp at hx; omega)); obtain ⟨A2, cp2, hv2, _, _⟩ := HRP.out.form; replace hv2 : v2 = .slice A2 3 cp2 := hv2; subst hv2; obtain ⟨g2, o2, rfl, _, _, z0⟩ := HRP.out.at_.2.2.2 0 (.string p0) rfl; rw [Nat.add_zero] at z0; obtain ⟨g2_, o2_, hAA, _, _, z1⟩ := HRP.out.at_.2.2.2 1 (.string p1) rfl; cases hAA; replace HK := hide (HK.out.only ho (by simp)); replace HH := hide (HH.out.only ho (by simp)); replace HS := hide (HS.out.only ho (by simp)); replace HO := hide (HO.out.trans (ho.mono (by simp))); clear ho hrd2 y0 y1; clear c0 c1 c2; have c0 := HK.out.cell 0; have c1 := HK.out.cell 1; have c2 := HK.out.cell 2; simp at c0 c1 c2)
    | (at_lookup; refine wpList_lookup_had _ rfl _ _ 83 rfl _ _ _ rfl rfl (HH.out.run a hsa) ?_; rw [hha])
    | (at_mapUpdate; refine wpList_mapUpdate_own _ rfl _ _ _ 83 rfl 9 4 (string_keyed Try.underlying9) Try.underlying83 (plainElem Try.prog 4) m (n) (D) rfl HH.out (by unfold maxLen; omega) (.string a) (.bool true) (.string a.data.toList) rfl rfl (keyOf_string_mk Try.underlying9 hsa) (.lit (.bool true)) [] (plainElem_bool Try.underlying4 true) ?_; intro w5 hown1 hgr1; have hoo : Only [m] _ w5 := (Only.refl [m] _).grown hgr1 (fun j hj => .inl (by cases hj; simp)); replace HK := hide (HK.out.only hoo (by simp; omega)); replace HS := hide (HS.out.only hoo (by simp; omega)); replace HO := hide (HO.out.trans (hoo.mono (by simp))); replace HH := hide (show Had m (n + 1) _ w5 from hown1); replace HRD := hide (HRD.out.only hoo (by simp)); clear hown1 hgr1 hoo; (first | (clear c0 c1 c2) | skip); have c0 := HK.out.cell 0; have c1 := HK.out.cell 1; have c2 := HK.out.cell 2; simp at c0 c1 c2; clear y0 y1; obtain ⟨gg_, oo_, hAA, _, _, y0⟩ := HRD.out.at_.2.2.2 0 (.string s) rfl; cases hAA; obtain ⟨gg_, oo_, hAA, _, _, y1⟩ := HRD.out.at_.2.2.2 1 (.string a) rfl; cases hAA; rw [Nat.add_zero] at y0)
    | (at_lookup; refine wpList_lookup_had _ rfl _ _ 83 rfl _ _ _ rfl rfl (HH.out.run s hss) ?_; rw [hhs])
    | (at_mapUpdate; refine wpList_mapUpdate_own _ rfl _ _ _ 83 rfl 9 4 (string_keyed Try.underlying9) Try.underlying83 (plainElem Try.prog 4) m (n + 1) ((D).put (.string a.data.toList) (.lit (.bool true))) rfl HH.out (by unfold maxLen; omega) (.string s) (.bool true) (.string s.data.toList) rfl rfl (keyOf_string_mk Try.underlying9 hss) (.lit (.bool true)) [] (plainElem_bool Try.underlying4 true) ?_; intro w5 hown1 hgr1; have hoo : Only [m] _ w5 := (Only.refl [m] _).grown hgr1 (fun j hj => .inl (by cases hj; simp)); replace HK := hide (HK.out.only hoo (by simp; omega)); replace HS := hide (HS.out.only hoo (by simp; omega)); replace HO := hide (HO.out.trans (hoo.mono (by simp))); replace HH := hide (show Had m (n + 1 + 1) _ w5 from hown1); replace HRD := hide (HRD.out.only hoo (by simp)); clear hown1 hgr1 hoo; (first | (clear c0 c1 c2) | skip); have c0 := HK.out.cell 0; have c1 := HK.out.cell 1; have c2 := HK.out.cell 2; simp at c0 c1 c2; clear y0 y1; obtain ⟨gg_, oo_, hAA, _, _, y0⟩ := HRD.out.at_.2.2.2 0 (.string s) rfl; cases hAA; obtain ⟨gg_, oo_, hAA, _, _, y1⟩ := HRD.out.at_.2.2.2 1 (.string a) rfl; cases hAA; rw [Nat.add_zero] at y0)
    | (go_at_call 39; (with_reducible refine (HKD.out _ s hss).mono ?_); rintro e w3 ⟨rfl, ho⟩; replace HK := hide (HK.out.only ho (by simp)); replace HH := hide (HH.out.only ho (by simp)); replace HS := hide (HS.out.only ho (by simp)); replace HO := hide (HO.out.trans (ho.mono (by simp))); replace HRD := hide (HRD.out.only ho (by simp)); clear ho c0 c1 c2; have c0 := HK.out.cell 0; have c1 := HK.out.cell 1; have c2 := HK.out.cell 2; simp at c0 c1 c2; clear y0 y1; obtain ⟨gg_, oo_, hAA, _, _, y0⟩ := HRD.out.at_.2.2.2 0 (.string s) rfl; cases hAA; obtain ⟨gg_, oo_, hAA, _, _, y1⟩ := HRD.out.at_.2.2.2 1 (.string a) rfl; cases hAA; rw [Nat.add_zero] at y0)
    | (go_at_call 39; (with_reducible refine (HKD.out _ a hsa).mono ?_); rintro e w3 ⟨rfl, ho⟩; replace HK := hide (HK.out.only ho (by simp)); replace HH := hide (HH.out.only ho (by simp)); replace HS := hide (HS.out.only ho (by simp)); replace HO := hide (HO.out.trans (ho.mono (by simp))); replace HRD := hide (HRD.out.only ho (by simp)); clear ho c0 c1 c2; have c0 := HK.out.cell 0; have c1 := HK.out.cell 1; have c2 := HK.out.cell 2; simp at c0 c1 c2; clear y0 y1; obtain ⟨gg_, oo_, hAA, _, _, y0⟩ := HRD.out.at_.2.2.2 0 (.string s) rfl; cases hAA; obtain ⟨gg_, oo_, hAA, _, _, y1⟩ := HRD.out.at_.2.2.2 1 (.string a) rfl; cases hAA; rw [Nat.add_zero] at y0))
  refine wp_region_held_drew (S := fun W => Only [] w4 W) (by kernel_rfl) (by exact (Only.refl [] w4).drew) (fun hHeld => ?_)
  refine wpAnyH_take (i := 0) (v := ?_) rfl (by kernel_rfl) (by kernel_rfl) (by kernel_rfl) (fun _ _ _ h => h) (Or.inl ⟨by rfl, ?_⟩) (by assumption) ?_
  rotate_left
  · (intro w hSw; (try dsimp only at hSw); go_simp; try with_reducible rfl)
  try simp only [List.getElem_toArray, List.getElem_cons_succ, List.getElem_cons_zero, Act.put, List.setIfInBounds_toArray, List.set_cons_zero, List.set_cons_succ]
  refine wpAnyH_take (i := 1) (v := ?_) rfl (by kernel_rfl) (by kernel_rfl) (by kernel_rfl) (fun _ _ _ h => h) (Or.inl ⟨by rfl, ?_⟩) (by assumption) ?_
  rotate_left
  · (intro w hSw; (try dsimp only at hSw); go_simp; try with_reducible rfl)
  try simp only [List.getElem_toArray, List.getElem_cons_succ, List.getElem_cons_zero, Act.put, List.setIfInBounds_toArray, List.set_cons_zero, List.set_cons_succ]
  refine wpAnyH_take (i := 2) (v := ?_) rfl (by kernel_rfl) (by kernel_rfl) (by kernel_rfl) (fun _ _ _ h => h) (Or.inl ⟨by rfl, ?_⟩) (by assumption) ?_
  rotate_left
  · (intro w hSw; (try dsimp only at hSw); go_simp; try with_reducible rfl)
  try simp only [List.getElem_toArray, List.getElem_cons_succ, List.getElem_cons_zero, Act.put, List.setIfInBounds_toArray, List.set_cons_zero, List.set_cons_succ]
  refine wpAnyH_take (i := 3) (v := ?_) rfl (by kernel_rfl) (by kernel_rfl) (by kernel_rfl) (fun _ _ _ h => h) (Or.inl ⟨by rfl, ?_⟩) (by assumption) ?_
  rotate_left
  · (intro w hSw; (try dsimp only at hSw); have hKw := HK.out.only hSw (by simp); have q1 := hKw.cell 1; simp at q1; go_simp; try with_reducible rfl)
  try simp only [List.getElem_toArray, List.getElem_cons_succ, List.getElem_cons_zero, Act.put, List.setIfInBounds_toArray, List.set_cons_zero, List.set_cons_succ]
  refine wpAnyH_take (i := 4) (v := ?_) rfl (by kernel_rfl) (by kernel_rfl) (by kernel_rfl) (fun _ _ _ h => h) (Or.inl ⟨by rfl, ?_⟩) (by assumption) ?_
  rotate_left
  · (intro w hSw; (try dsimp only at hSw); go_simp; try with_reducible rfl)
  try simp only [List.getElem_toArray, List.getElem_cons_succ, List.getElem_cons_zero, Act.put, List.setIfInBounds_toArray, List.set_cons_zero, List.set_cons_succ]
  refine wpAnyH_take (i := 5) (v := ?_) rfl (by kernel_rfl) (by kernel_rfl) (by kernel_rfl) (fun _ _ _ h => h) (Or.inl ⟨by rfl, ?_⟩) (by assumption) ?_
  rotate_left
  · (intro w hSw; (try dsimp only at hSw); go_simp; try with_reducible rfl)
  try simp only [List.getElem_toArray, List.getElem_cons_succ, List.getElem_cons_zero, Act.put, List.setIfInBounds_toArray, List.set_cons_zero, List.set_cons_succ]
  refine wpAnyH_take (i := 6) (v := ?_) rfl (by kernel_rfl) (by kernel_rfl) (by kernel_rfl) (fun _ _ _ h => h) (Or.inl ⟨by rfl, ?_⟩) (by assumption) ?_
  rotate_left
  · (intro w hSw; (try dsimp only at hSw); have hPw := HRP.out.only hSw (by simp); obtain ⟨_, _, hAA, _, _, q0⟩ := hPw.at_.2.2.2 0 (.string p0) rfl; cases hAA; rw [Nat.add_zero] at q0; go_simp; try with_reducible rfl)
  try simp only [List.getElem_toArray, List.getElem_cons_succ, List.getElem_cons_zero, Act.put, List.setIfInBounds_toArray, List.set_cons_zero, List.set_cons_succ]
  refine wpAnyH_take (i := 7) (v := ?_) rfl (by kernel_rfl) (by kernel_rfl) (by kernel_rfl) (fun _ _ _ h => h) (Or.inl ⟨by rfl, ?_⟩) (by assumption) ?_
  rotate_left
  · (intro w hSw; (try dsimp only at hSw); have hl := (HS.out.only hSw (by simp)).at_nil p0 hp0; go_simp; try with_reducible rfl)
  try simp only [List.getElem_toArray, List.getElem_cons_succ, List.getElem_cons_zero, Act.put, List.setIfInBounds_toArray, List.set_cons_zero, List.set_cons_succ]
  refine wpAnyH_take (i := 8) (v := ?_) rfl (by kernel_rfl) (by kernel_rfl) (by kernel_rfl) (fun _ _ _ h => h) (Or.inl ⟨by rfl, ?_⟩) (by assumption) ?_
  rotate_left
  · (intro w hSw; (try dsimp only at hSw); go_simp; try with_reducible rfl)
  try simp only [List.getElem_toArray, List.getElem_cons_succ, List.getElem_cons_zero, Act.put, List.setIfInBounds_toArray, List.set_cons_zero, List.set_cons_succ]
  refine wpAnyH_take (i := 9) (v := ?_) rfl (by kernel_rfl) (by kernel_rfl) (by kernel_rfl) (fun _ _ _ h => h) (Or.inl ⟨by rfl, ?_⟩) (by assumption) ?_
  rotate_left
  · (intro w hSw; (try dsimp only at hSw); go_simp; try with_reducible rfl)
  try simp only [List.getElem_toArray, List.getElem_cons_succ, List.getElem_cons_zero, Act.put, List.setIfInBounds_toArray, List.set_cons_zero, List.set_cons_succ]
  refine wpAnyH_done (by kernel_rfl) ?_ _
  replace HK := hide (HK.out.only hHeld (by simp)); replace HH := hide (HH.out.only hHeld (by simp)); replace HS := hide (HS.out.only hHeld (by simp)); replace HO := hide (HO.out.trans (hHeld.mono (by simp))); replace HRP := hide (HRP.out.only hHeld (by simp))
  clear c0 c1 c2; have c0 := HK.out.cell 0; have c1 := HK.out.cell 1; have c2 := HK.out.cell 2; simp at c0 c1 c2
  clear z0 z1 hHeld
  obtain ⟨_, _, hAA, _, _, z0⟩ := HRP.out.at_.2.2.2 0 (.string p0) rfl; cases hAA; rw [Nat.add_zero] at z0; obtain ⟨_, _, hAA, _, _, z1⟩ := HRP.out.at_.2.2.2 1 (.string p1) rfl; cases hAA
  go_wp2_with fail
  clear z0 z1
  generalize w4.drew = w5 at *
  clear c0 c1 c2; have c0 := HK.out.cell 0; have c1 := HK.out.cell 1; have c2 := HK.out.cell 2; simp at c0 c1 c2
  obtain ⟨_, _, hAA, _, _, z0⟩ := HRP.out.at_.2.2.2 0 (.string p0) rfl; cases hAA; rw [Nat.add_zero] at z0; obtain ⟨_, _, hAA, _, _, z1⟩ := HRP.out.at_.2.2.2 1 (.string p1) rfl; cases hAA
  have f2 := HK.out.frozen 2
  have HLW := hide (show k < w5.heap.size ∧ m < w5.heap.size ∧ sb < w5.heap.size from ⟨HK.out.lt, World.ownsMap.lt HH.out, World.ownsMap.lt HS.out⟩)
  have HOWN := hide (show (w5.drew.alloc (.cells #[.string p0] 9)).ownsRow w5.heap.size 9 1 (.slice none 0 0) 0 [] from World.ownsRow_nil _ _ _ _)
  have HRN := hide (reads_one w5.drew 9 (.string p0) (w5.heap.size + 1) (Nat.lt_succ_self _))
  have c2b := (HK.out.alloc (.cells #[.string p0] 9)).cell 2; simp at c2b
  have z0b := Below.cell (Below.refl _ w5 |>.alloc (Nat.le_refl _) (.cells #[.string p0] 9)) (p := ⟨g2, o2, none⟩) (HRP.out.at_.2.2.2 0 (.string p0) rfl |> fun ⟨_, _, hA, _, hl, _⟩ => by cases hA; exact hl); rw [z0] at z0b
  go_region_law (refine step_append_any _ rfl (.tmp 60) (.tmp 64) 50 rfl w5.heap.size 9 is (.string ByteArray.empty) 1 16 Try.underlying50 his hs0 hs1 hs2 rfl (by decide) (.slice none 0 0) 0 [] rfl HOWN.out _ _ 1 1 [.string p0] rfl HRN.out (by simp [Value.oneCell']) (by unfold maxLen; omega) (by omega) (by simp) ?_; intro v1 w6 hown1 hg1 _; rw [Nat.zero_add, List.nil_append] at hown1; obtain ⟨g1, c1v, rfl⟩ := Go.Joins.ownsRow_form hown1 (by omega); have ho6 : Only [] w5 w6 := (((Only.refl [] w5).drew).alloc _).grown hg1 (fun j hj => by cases hj); replace HK := hide (HK.out.only ho6 (by simp)); replace HH := hide (HH.out.only ho6 (by simp)); replace HS := hide (HS.out.only ho6 (by simp)); replace HO := hide (HO.out.trans (ho6.mono (by simp))); replace HRP := hide (HRP.out.only ho6 (by simp)); have HRK := hide (show Rd w6 [k, m, sb] (.slice (some ⟨g1, 0, none⟩) 1 c1v) (strs [p0]) from (Rd.of_own (N := [k, m, sb]) hown1 (by have := HLW.out; intro x hx; simp at hx; omega)).1); clear hown1; (first | (clear c0 c1 c2 f2) | skip); have c0 := HK.out.cell 0; have c1 := HK.out.cell 1; have c2 := HK.out.cell 2; simp at c0 c1 c2; have f2 := HK.out.frozen 2; clear hg1 ho6 HOWN HRN)
  all_goals
    go_upto_region 13 with fail
    have ho7 : Only [k] w6 (w6.setCell ⟨k, 2, none⟩ (.slice (some ⟨g1, 0, none⟩) 1 c1v)) := (Only.refl [k] w6).setCell (p := ⟨k, 2, none⟩) (.inl (by simp)) _
    replace HK := hide (show Blk (w6.setCell ⟨k, 2, none⟩ (.slice (some ⟨g1, 0, none⟩) 1 c1v)) k 86 #[.map (some m), .map (some sb), .slice (some ⟨g1, 0, none⟩) 1 c1v] from HK.out.set_ 2 _)
    replace HH := hide (HH.out.only ho7 (by simp; omega))
    replace HS := hide (HS.out.only ho7 (by simp; omega))
    replace HO := hide ((HO.out.mono (S' := [k, m, sb]) (by simp)).trans (ho7.mono (by simp)))
    replace HRK := hide (HRK.out.only ho7 (by simp))
    replace HRP := hide (HRP.out.only ho7 (by simp))
    clear ho7 c0 c1 c2 f2 z0 z1 z0b c2b
    generalize (w6.setCell ⟨k, 2, none⟩ (.slice (some ⟨g1, 0, none⟩) 1 c1v)) = w7 at *
    have c0 := HK.out.cell 0; have c1 := HK.out.cell 1; have c2 := HK.out.cell 2; simp at c0 c1 c2
    obtain ⟨_, _, hAA, _, _, z0⟩ := HRP.out.at_.2.2.2 0 (.string p0) rfl; cases hAA; rw [Nat.add_zero] at z0; obtain ⟨_, _, hAA, _, _, z1⟩ := HRP.out.at_.2.2.2 1 (.string p1) rfl; cases hAA
    have hl := (HS.out.only ((Only.refl [] w7).drew) (by simp)).at_nil p0 hp0
    replace HLW := hide (show k < w7.heap.size ∧ m < w7.heap.size ∧ sb < w7.heap.size from ⟨HK.out.lt, World.ownsMap.lt HH.out, World.ownsMap.lt HS.out⟩)
    have hlb := (HS.out.only (((Only.refl [] w7).alloc (.cells #[.string p1] 9)).drew) (by simp)).at_nil p0 hp0
    have hbs : Only [sb] w7 w7.drew := (Only.refl [sb] w7).drew
    refine wp_region_held_drew (S := fun W => Only [sb] w7 W) (by kernel_rfl) (by exact (Only.refl [sb] w7).drew) (fun hHeld => ?_)
    refine wpAnyH_take (i := 0) (v := ?_) rfl (by kernel_rfl) (by kernel_rfl) (by kernel_rfl) (fun _ _ _ h => h) (Or.inl ⟨by rfl, ?_⟩) (by assumption) ?_
    rotate_left
    · (intro w hSw; (try dsimp only at hSw); go_simp; try with_reducible rfl)
    try simp only [List.getElem_toArray, List.getElem_cons_succ, List.getElem_cons_zero, Act.put, List.setIfInBounds_toArray, List.set_cons_zero, List.set_cons_succ]
    refine wpAnyH_take (i := 1) (v := ?_) rfl (by kernel_rfl) (by kernel_rfl) (by kernel_rfl) (fun _ _ _ h => h) (Or.inl ⟨by rfl, ?_⟩) (by assumption) ?_
    rotate_left
    · (intro w hSw; (try dsimp only at hSw); go_simp; try with_reducible rfl)
    try simp only [List.getElem_toArray, List.getElem_cons_succ, List.getElem_cons_zero, Act.put, List.setIfInBounds_toArray, List.set_cons_zero, List.set_cons_succ]
    refine wpAnyH_take (i := 2) (v := ?_) rfl (by kernel_rfl) (by kernel_rfl) (by kernel_rfl) (fun _ _ _ h => h) (Or.inl ⟨by rfl, ?_⟩) (by assumption) ?_
    rotate_left
    · (intro w hSw; (try dsimp only at hSw); go_simp; try with_reducible rfl)
    try simp only [List.getElem_toArray, List.getElem_cons_succ, List.getElem_cons_zero, Act.put, List.setIfInBounds_toArray, List.set_cons_zero, List.set_cons_succ]
    refine wpAnyH_take (i := 3) (v := ?_) rfl (by kernel_rfl) (by kernel_rfl) (by kernel_rfl) (fun _ _ _ h => h) (Or.inl ⟨by rfl, ?_⟩) (by assumption) ?_
    rotate_left
    · (intro w hSw; (try dsimp only at hSw); have hKw := HK.out.only hSw (by simp; omega); have q1 := hKw.cell 1; simp at q1; go_simp; try with_reducible rfl)
    try simp only [List.getElem_toArray, List.getElem_cons_succ, List.getElem_cons_zero, Act.put, List.setIfInBounds_toArray, List.set_cons_zero, List.set_cons_succ]
    refine wpAnyH_take (i := 4) (v := ?_) rfl (by kernel_rfl) (by kernel_rfl) (by kernel_rfl) (fun _ _ _ h => h) (Or.inl ⟨by rfl, ?_⟩) (by assumption) ?_
    rotate_left
    · (intro w hSw; (try dsimp only at hSw); go_simp; try with_reducible rfl)
    try simp only [List.getElem_toArray, List.getElem_cons_succ, List.getElem_cons_zero, Act.put, List.setIfInBounds_toArray, List.set_cons_zero, List.set_cons_succ]
    refine wpAnyH_take (i := 5) (v := ?_) rfl (by kernel_rfl) (by kernel_rfl) (by kernel_rfl) (fun _ _ _ h => h) (Or.inl ⟨by rfl, ?_⟩) (by assumption) ?_
    rotate_left
    · (intro w hSw; (try dsimp only at hSw); go_simp; try with_reducible rfl)
    try simp only [List.getElem_toArray, List.getElem_cons_succ, List.getElem_cons_zero, Act.put, List.setIfInBounds_toArray, List.set_cons_zero, List.set_cons_succ]
    refine wpAnyH_take (i := 6) (v := ?_) rfl (by kernel_rfl) (by kernel_rfl) (by kernel_rfl) (fun _ _ _ h => h) (Or.inl ⟨by rfl, ?_⟩) (by assumption) ?_
    rotate_left
    · (intro w hSw; (try dsimp only at hSw); have hPw := HRP.out.only hSw (by simp); obtain ⟨_, _, hAA, _, _, q0⟩ := hPw.at_.2.2.2 0 (.string p0) rfl; cases hAA; rw [Nat.add_zero] at q0; go_simp; try with_reducible rfl)
    try simp only [List.getElem_toArray, List.getElem_cons_succ, List.getElem_cons_zero, Act.put, List.setIfInBounds_toArray, List.set_cons_zero, List.set_cons_succ]
    refine wpAnyH_take (i := 7) (v := ?_) rfl (by kernel_rfl) (by kernel_rfl) (by kernel_rfl) (fun _ _ _ h => h) (Or.inl ⟨by rfl, ?_⟩) (by assumption) ?_
    rotate_left
    · (intro w hSw; (try dsimp only at hSw); go_simp; try with_reducible rfl)
    try simp only [List.getElem_toArray, List.getElem_cons_succ, List.getElem_cons_zero, Act.put, List.setIfInBounds_toArray, List.set_cons_zero, List.set_cons_succ]
    refine wpAnyH_take (i := 8) (v := ?_) rfl (by kernel_rfl) (by kernel_rfl) (by kernel_rfl) (fun _ _ _ h => h) (Or.inl ⟨by rfl, ?_⟩) (by assumption) ?_
    rotate_left
    · (intro w hSw; (try dsimp only at hSw); go_simp; try with_reducible rfl)
    try simp only [List.getElem_toArray, List.getElem_cons_succ, List.getElem_cons_zero, Act.put, List.setIfInBounds_toArray, List.set_cons_zero, List.set_cons_succ]
    refine wpAnyH_take (i := 9) (v := ?_) rfl (by kernel_rfl) (by kernel_rfl) (by kernel_rfl) (fun _ _ _ h => h) (Or.inl ⟨by rfl, ?_⟩) (by assumption) ?_
    rotate_left
    · (intro w hSw; (try dsimp only at hSw); go_simp; try with_reducible rfl)
    try simp only [List.getElem_toArray, List.getElem_cons_succ, List.getElem_cons_zero, Act.put, List.setIfInBounds_toArray, List.set_cons_zero, List.set_cons_succ]
    refine wpAnyH_take (i := 10) (v := ?_) rfl (by kernel_rfl) (by kernel_rfl) (by kernel_rfl) (fun _ _ _ h => h) (Or.inl ⟨by rfl, ?_⟩) (by assumption) ?_
    rotate_left
    · (intro w hSw; (try dsimp only at hSw); have hKw := HK.out.only hSw (by simp; omega); have q1 := hKw.cell 1; simp at q1; go_simp; try with_reducible rfl)
    try simp only [List.getElem_toArray, List.getElem_cons_succ, List.getElem_cons_zero, Act.put, List.setIfInBounds_toArray, List.set_cons_zero, List.set_cons_succ]
    refine wpAnyH_take (i := 11) (v := ?_) rfl (by kernel_rfl) (by kernel_rfl) (by kernel_rfl) (fun _ _ _ h => h) (Or.inl ⟨by rfl, ?_⟩) (by assumption) ?_
    rotate_left
    · (intro w hSw; (try dsimp only at hSw); go_simp; try with_reducible rfl)
    try simp only [List.getElem_toArray, List.getElem_cons_succ, List.getElem_cons_zero, Act.put, List.setIfInBounds_toArray, List.set_cons_zero, List.set_cons_succ]
    refine wpAnyH_take (i := 12) (v := ?_) rfl (by kernel_rfl) (by kernel_rfl) (by kernel_rfl) (fun _ _ _ h => h) (Or.inl ⟨by rfl, ?_⟩) (by assumption) ?_
    rotate_left
    · (intro w hSw; (try dsimp only at hSw); go_simp; try with_reducible rfl)
    try simp only [List.getElem_toArray, List.getElem_cons_succ, List.getElem_cons_zero, Act.put, List.setIfInBounds_toArray, List.set_cons_zero, List.set_cons_succ]
    refine wpAnyH_take (i := 13) (v := ?_) rfl (by kernel_rfl) (by kernel_rfl) (by kernel_rfl) (fun _ _ _ h => h) (Or.inl ⟨by rfl, ?_⟩) (by assumption) ?_
    rotate_left
    · (intro w hSw; (try dsimp only at hSw); have hPw := HRP.out.only hSw (by simp); obtain ⟨_, _, hAA, _, _, q0⟩ := hPw.at_.2.2.2 0 (.string p0) rfl; cases hAA; rw [Nat.add_zero] at q0; go_simp; try with_reducible rfl)
    try simp only [List.getElem_toArray, List.getElem_cons_succ, List.getElem_cons_zero, Act.put, List.setIfInBounds_toArray, List.set_cons_zero, List.set_cons_succ]
    refine wpAnyH_take (i := 15) (v := ?_) rfl (by kernel_rfl) (by kernel_rfl) (by kernel_rfl) (fun _ _ _ h => h) (Or.inl ⟨by rfl, ?_⟩) (by assumption) ?_
    rotate_left
    · (intro w hSw; (try dsimp only at hSw); go_simp; try with_reducible rfl)
    try simp only [List.getElem_toArray, List.getElem_cons_succ, List.getElem_cons_zero, Act.put, List.setIfInBounds_toArray, List.set_cons_zero, List.set_cons_succ]
    refine wpAnyH_take (i := 16) (v := ?_) rfl (by kernel_rfl) (by kernel_rfl) (by kernel_rfl) (fun _ _ _ h => h) (Or.inl ⟨by rfl, ?_⟩) (by assumption) ?_
    rotate_left
    · (intro w hSw; (try dsimp only at hSw); go_simp; try with_reducible rfl)
    try simp only [List.getElem_toArray, List.getElem_cons_succ, List.getElem_cons_zero, Act.put, List.setIfInBounds_toArray, List.set_cons_zero, List.set_cons_succ]
    refine wpAnyH_take (i := 17) (v := ?_) rfl (by kernel_rfl) (by kernel_rfl) (by kernel_rfl) (fun _ _ _ h => h) (Or.inl ⟨by rfl, ?_⟩) (by assumption) ?_
    rotate_left
    · (intro w hSw; (try dsimp only at hSw); have hPw := HRP.out.only hSw (by simp); obtain ⟨_, _, hAA, _, _, q0⟩ := hPw.at_.2.2.2 1 (.string p1) rfl; cases hAA; go_simp; try with_reducible rfl)
    try simp only [List.getElem_toArray, List.getElem_cons_succ, List.getElem_cons_zero, Act.put, List.setIfInBounds_toArray, List.set_cons_zero, List.set_cons_succ]
    have HOWN := hide (show (w7.drew.alloc (.cells #[.string p1] 9)).ownsRow w7.heap.size 9 1 (.slice none 0 0) 0 [] from World.ownsRow_nil _ _ _ _)
    have HRN := hide (reads_one w7.drew 9 (.string p1) (w7.heap.size + 1) (Nat.lt_succ_self _))
    refine wpAnyH_ready (rs := [14, 18]) (by kernel_rfl) (by simp) ?_
    refine AllReadyH.cons rfl (fun K hK => ?_) (AllReadyH.cons rfl (fun K hK => ?_) AllReadyH.nil)
    go_simp
    refine hK.out _ _ (by exact hHeld) (fun hHeld => ?_)
    clear hK K
    try simp only [List.getElem_toArray, List.getElem_cons_succ, List.getElem_cons_zero, Act.put, List.setIfInBounds_toArray, List.set_cons_zero, List.set_cons_succ]
    refine wpAnyH_ready (rs := [18]) (by kernel_rfl) (by simp) ?_
    refine AllReadyH.cons rfl (fun K hK => ?_) AllReadyH.nil
    go_simp
    refine hK.out _ _ (by exact hHeld.alloc _) (fun hHeld => ?_)
    clear hK K
    try simp only [List.getElem_toArray, List.getElem_cons_succ, List.getElem_cons_zero, Act.put, List.setIfInBounds_toArray, List.set_cons_zero, List.set_cons_succ]
    rotate_left
    go_simp
    refine hK.out _ _ (by exact hHeld.alloc _) (fun hHeld => ?_)
    clear hK K
    try simp only [List.getElem_toArray, List.getElem_cons_succ, List.getElem_cons_zero, Act.put, List.setIfInBounds_toArray, List.set_cons_zero, List.set_cons_succ]
    refine wpAnyH_ready (rs := [14]) (by kernel_rfl) (by simp) ?_
    refine AllReadyH.cons rfl (fun K hK => ?_) AllReadyH.nil
    go_simp
    refine hK.out _ _ (by exact hHeld) (fun hHeld => ?_)
    clear hK K
    try simp only [List.getElem_toArray, List.getElem_cons_succ, List.getElem_cons_zero, Act.put, List.setIfInBounds_toArray, List.set_cons_zero, List.set_cons_succ]
    all_goals
      refine wpAnyH_ready (rs := [19]) (by kernel_rfl) (by simp) ?_
      refine AllReadyH.cons rfl (fun K hK => ?_) AllReadyH.nil
      refine step_append_any _ rfl (.tmp 82) (.tmp 86) 50 rfl w7.heap.size 9 is (.string ByteArray.empty) 1 16 Try.underlying50 his hs0 hs1 hs2 rfl (by decide) (.slice none 0 0) 0 [] rfl HOWN.out _ _ 1 1 [.string p1] rfl HRN.out (by simp [Value.oneCell']) (by unfold maxLen; omega) (by omega) (by simp) ?_; intro v1 w8 hown1 hg1 _; rw [Nat.zero_add, List.nil_append] at hown1; obtain ⟨g3, c3v, rfl⟩ := Go.Joins.ownsRow_form hown1 (by omega); have ho6 : Only [] w7 w8 := (((Only.refl [] w7).drew).alloc _).grown hg1 (fun j hj => by cases hj); replace HK := hide (HK.out.only ho6 (by simp)); replace HH := hide (HH.out.only ho6 (by simp)); replace HS := hide (HS.out.only ho6 (by simp)); replace HO := hide (HO.out.trans (ho6.mono (by simp))); replace HRP := hide (HRP.out.only ho6 (by simp)); have HRS := hide (show Rd w8 [k, m, sb] (.slice (some ⟨g3, 0, none⟩) 1 c3v) (strs [p1]) from (Rd.of_own (N := [k, m, sb]) hown1 (by have := HLW.out; intro x hx; simp at hx; omega)).1); obtain ⟨w9, hrun9, hs9, hgr9⟩ := World.ownsMap.update HS.out (string_keyed Try.underlying9) Try.underlying84 (by unfold maxLen; omega) (keyOf_string_mk Try.underlying9 hp0) (sliceElem_at g3 0 1 c3v); have ho8 : Only [sb] w7 w8 := (((Only.refl [sb] w7).drew).alloc _).grown hg1 (fun j hj => by cases hj); clear hown1; clear hg1 ho6 HOWN HRN
      refine hK.out _ _ (by exact ho8) (fun hHeld => ?_)
      clear hK K
      try simp only [List.getElem_toArray, List.getElem_cons_succ, List.getElem_cons_zero, Act.put, List.setIfInBounds_toArray, List.set_cons_zero, List.set_cons_succ]
      refine wpAnyH_ready (rs := [20]) (by kernel_rfl) (by simp) ?_
      refine AllReadyH.cons rfl (fun K hK => ?_) AllReadyH.nil
      go_simp
      have ho9 : Only [sb] w8 w9 := (Only.refl [sb] w8).grown hgr9 (fun j hj => .inl (by cases hj; simp))
      refine hK.out _ _ (by exact hHeld.trans ho9) (fun hHeld => ?_)
      clear hK K
      refine wpAnyH_done (by kernel_rfl) ?_ _
      go_wp2_with fail
      go_step3
      refine ⟨rfl, ?_⟩
      unfold JumpsN
      have HRK8 := hide (HRK.out.only (ho8.trans ho9) (by simp))
      clear c0 c1 c2 z0 z1 hl hlb
      go_wp2_with fail
      simp only [Exit.jump]
      refine bodyPost_ret (results_none rfl _ _ _) rfl ?_
      exact ⟨rfl, g1, c1v, g3, c3v, HK.out.only ho9 (by simp; omega), HH.out.only ho9 (by simp; omega), hs9, HRK8.out, HRS.out.only ho9 (by simp), HO.out.trans (ho9.mono (by simp))⟩
end
section
open Go.RowKit Go.Deep Go.Maps Go.WideMaps

set_option maxRecDepth 100000 in
set_option maxHeartbeats 6400000 in
theorem unseal_none (w : World) (k m sb : Nat) (hk : Blk w k 86 #[.map (some m), .map (some sb), .slice none 0 0]) :
    Calls Try.prog 42 #[.pointer (some ⟨k, 0, none⟩)] w fun e w' => e = .returned (.bool false) ∧ Blk w' k 86 #[.map (some m), .map (some sb), .slice none 0 0] ∧ Only [k] w w' := by
  have HK := hide hk
  have c2 := hk.cell 2
  have f2 := hk.frozen 2
  simp at c2
  clear hk
  go_enter Try.func42, Try.ntmps42
  go_wp2_with fail
  refine wp_loop_rounds 1 ?_
  rw [rounds_succ]
  go_wp2_with fail
  refine wp_loop_rounds 1 ?_
  rw [rounds_succ]
  go_wp2_with fail
  go_ret
  exact ⟨rfl, HK.out.set_ 2 _, (Only.refl [k] w).setCell (p := ⟨k, 2, none⟩) (.inl (by simp)) _⟩
theorem public_any (w : World) (g k m n sb : Nat) (D : DataW Unit) (keys : Value) (s x : ByteArray) (p : Nat) (hb : KAt g (some ⟨k, 0, none⟩) s p w) (hk : KnowIs k m n sb D keys w) (hx : x.size ≤ 1000) :
    Calls Try.prog 76 #[.pointer (some ⟨g, 0, none⟩), .string x] w (RetB (hadB D (⟨#[112, 40]⟩ ++ x ++ ⟨#[41]⟩)) w) := by
  have k0 := hb.cell 0
  have c0 := hk.1.cell 0
  simp at k0 c0
  have hl := hk.2.run (⟨#[112, 40]⟩ ++ x ++ ⟨#[41]⟩) (by unfold maxLen; simp only [ByteArray.size_append]; show 2 + x.size + 1 ≤ _; omega)
  have h1 : ¬ 9223372036854775807 < (2 : Nat) + x.size := by omega
  clear hb hk
  go_enter Try.func76, Try.ntmps76
  go_wp2_with fail
  go_ret
  exact retb rfl (Only.refl [] w)
end
end Go.Proofs.Ytfmfnfmhknlpbaa

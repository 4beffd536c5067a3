/-
  Walks and plain words (texts Tm8, Tm9, Pr1, So1, Hs, Tk, Hex, Np1, Py0, Adl, Ret). No condition beyond those that each theorem states.
-/
import Derived.Defers
import Derived.Recover
import Derived.LaidEqlPtr
import Derived.Lib.Builder
import Derived.Deep.MidRow
import Derived.OrdersHeld
import Derived.Deep.RegionHeld3
import Derived.Test.YtcokjoidpnfjhaaGreatDoorShelf
import Derived.Lib.ItoaMem
import Derived.Test.YtcokjoidpnfjhaaGreatDoorChecked
import Derived.Test.YtcokjoidpnfjhaaGreatDoorA05
namespace Go.Proofs.YtcokjoidpnfjhaaGreatDoor
section
open Go.RowKit Go.Deep

theorem term_all (s : ByteArray) : ∀ f, TSaid s f := by
  intro f
  induction f using Nat.strongRecOn with
  | _ f ih =>
    cases f with
    | zero => intro w g p keep _ _ _ h; omega
    | succ f => exact read_any s f (rest_any s f fun f' h => ih f' (by omega))

theorem catch_idle (p q : Addr) (w : World) :
    CallsD Tryz.prog 182 #[.pointer (some p), .pointer (some q)] .returning w fun e u' w' => e = .returned (.tuple #[]) ∧ u' = .returning ∧ w' = w := by
  refine callsD_of_wpS Tryz.func182 rfl fun c₀ cs hu => ?_
  apply wpS_seq
  apply wpS_region
  simp [wpOpsS, go_sem, recoverD, hu, Tryz.ntmps182, Exit.thenS]
  apply wpS_seq
  apply wpS_region
  simp [wpOpsS, go_sem, Exit.thenS]
  refine wpS_cond (t := false) (by simp [Act.eval, Array.replicate]) ?_
  simp only [Bool.false_eq_true, if_false]
  refine wpS_of_wp (wp_skip ?_)
  cases c₀
  simp_all [bodyPostS, results, Tryz.results182]

theorem catch_panicking (B C : Nat) (u : TypeId) (pv a b c d x : Value) (tb : TypeId) (older : List PanicEntry) (w : World) (hB : Blk w B 199 #[a, b, c, d]) (hC : Blk w C tb #[x]) (hne : B ≠ C) :
    CallsD Tryz.prog 182 #[.pointer (some ⟨B, 0, none⟩), .pointer (some ⟨C, 0, none⟩)] (.panicking ({ v := .iface u pv, recovered := false } :: older)) w fun e u' w' =>
      e = .returned (.tuple #[]) ∧ u' = .panicking ({ v := .iface u pv, recovered := true } :: older) ∧ w' = (fin B 0 0 (.slice none 0 0) (.slice none 0 0) w).setCell ⟨C, 0, none⟩ (.bool false) := by
  have b0 := hB.cell 0
  have b1 := hB.cell 1
  have b2 := hB.cell 2
  have b3 := hB.cell 3
  have bf := hB.frozen
  have c0 := hC.cell 0
  have cf := hC.frozen 0
  simp at b0 b1 b2 b3 c0
  refine callsD_of_wpS Tryz.func182 rfl fun c₀ cs hu => ?_
  apply wpS_seq
  apply wpS_region
  simp [wpOpsS, go_sem, recoverD, hu, Tryz.ntmps182, Exit.thenS]
  apply wpS_seq
  apply wpS_region
  simp [wpOpsS, go_sem, Exit.thenS]
  refine wpS_cond (t := true) (by simp [Act.eval, Array.replicate]) ?_
  simp only [if_true]
  apply wpS_region
  simp [wpOpsS, go_sem, b0, b1, b2, b3, bf, c0, cf, bodyPostS, results, Tryz.results182]
  rfl

/-- A text as a term as a whole. -/
def parseV (s : ByteArray) : Option Nd :=
  if 65536 < s.size then none else
    match rd s (2 * s.size + 2) none 0 with
    | none => none
    | some (nd, q) => if q = s.size then some nd else none
def nd0 : Value := .agg #[.int .i64 0, .int .u64 0, .slice none 0 0, .slice none 0 0]
def ParsePost (r : Option Nd) (w : World) (e : Ending) (w' : World) : Prop :=
  match r with
  | none => e = .returned (.tuple #[nd0, .bool false]) ∧ Only [] w w'
  | some nd => ∃ bv pv, e = .returned (.tuple #[.agg #[.int .i64 nd.1, .int .u64 nd.2.1, bv, pv], .bool true]) ∧ Only [] w w' ∧
      (∀ N : List Nat, (∀ x ∈ N, x < w.heap.size) → Rd w' N bv (ints .u8 (byts nd.2.2.1))) ∧ (∀ N : List Nat, (∀ x ∈ N, x < w.heap.size) → Rd w' N pv (strs nd.2.2.2))
theorem parse_no {r : Option Nd} {w w' : World} (h : r = none) (ho : Only [] w w') : ParsePost r w (.returned (.tuple #[nd0, .bool false])) w' := by
  subst h; exact ⟨rfl, ho⟩

theorem parse_yes {r : Option Nd} {w w' : World} {k : Int} {n : Nat} {bs : List UInt8} {parts : List ByteArray} {bv pv : Value} (h : r = some (k, n, bs, parts)) (ho : Only [] w w')
    (hb : ∀ N : List Nat, (∀ x ∈ N, x < w.heap.size) → Rd w' N bv (ints .u8 (byts bs))) (hp : ∀ N : List Nat, (∀ x ∈ N, x < w.heap.size) → Rd w' N pv (strs parts)) :
    ParsePost r w (.returned (.tuple #[.agg #[.int .i64 k, .int .u64 n, bv, pv], .bool true])) w' := by
  subst h; exact ⟨_, _, rfl, ho, hb, hp⟩
def zs4 : Array Value := #[.int .i64 0, .int .u64 0, .slice none 0 0, .slice none 0 0]
set_option maxRecDepth 100000 in
set_option maxHeartbeats 3200000 in
theorem parse_any (w : World) (s : ByteArray) (hs : s.size ≤ maxLen) : Calls Tryz.prog 120 #[.string s] w (ParsePost (parseV s) w) := by
  unfold maxLen at hs
  have hmf : ∀ (fn : Fn) (first cap : Array Value) (w : World), (Instr.makeFunc fn first cap).run Tryz.prog w = .ok (.func fn first cap) w := fun _ _ _ _ => rfl
  by_cases hlt : 65536 < s.size
  · have hltI : (65536 : Int) < s.size := by omega
    have HR := hide (show parseV s = none by unfold parseV; rw [if_pos hlt])
    have HO := hide (((Only.refl [] w).alloc (.cells zs4 199)).alloc (.cells #[.bool false] 4))
    clear hlt
    go_enter_defers Tryz.func120, Tryz.ntmps120
    go_wp2_with fail
    simp [Leaves, results, Tryz.results120, go_sem, bodyPostD]
    exact parse_no HR.out HO.out
  · have hltI : ¬ (65536 : Int) < s.size := by omega
    have HT := hide (fun W h => term_all s (2 * s.size + 2) W (w.heap.size + 1 + 1) 0 true h (Nat.zero_le _) (by omega) (by omega))
    have HV := hide (show parseV s = match rd s (2 * s.size + 2) none 0 with | none => none | some (nd, q) => if q = s.size then some nd else none by unfold parseV; rw [if_neg hlt])
    have HO := hide ((((Only.refl [] w).alloc (.cells zs4 199)).alloc (.cells #[.bool false] 4)).alloc (.cells #[.string s, .int .i64 0] 278))
    have HB := hide (((Blk.new w 199 zs4).alloc (.cells #[.bool false] 4)).alloc (.cells #[.string s, .int .i64 0] 278))
    have HC := hide (show Blk (((w.alloc (.cells zs4 199)).alloc (.cells #[.bool false] 4)).alloc (.cells #[.string s, .int .i64 0] 278)) (w.heap.size + 1) 4 #[.bool false] by
      have h := (Blk.new (w.alloc (.cells zs4 199)) 4 #[.bool false]).alloc (.cells #[.string s, .int .i64 0] 278)
      simpa using h)
    have HA := hide (show At (w.heap.size + 1 + 1) s 0 (((w.alloc (.cells zs4 199)).alloc (.cells #[.bool false] 4)).alloc (.cells #[.string s, .int .i64 0] 278)) by
      have h := Blk.new ((w.alloc (.cells zs4 199)).alloc (.cells #[.bool false] 4)) 278 #[.string s, .int .i64 0]
      simpa [At] using h)
    unfold zs4 at HO HB HC HA
    cases hr : rd s (2 * s.size + 2) none 0 with
    | none =>
      have HR := hide (show parseV s = none by rw [HV.out, hr])
      rw [hr] at HT
      clear hr
      go_enter_defers Tryz.func120, Tryz.ntmps120
      go_wp2_with (go_at_call 183; refine (HT.out _ HA.out).mono ?_; rintro e w4 ⟨rfl, ho4⟩)
      have HB4 := hide (HB.out.only ho4 (by simp; omega))
      have HC4 := hide (HC.out.only ho4 (by simp))
      refine leaves_cons (f := 182) (args := #[.pointer (some ⟨w.heap.size, 0, none⟩), .pointer (some ⟨w.heap.size + 1, 0, none⟩)]) (by simp) (by simp [go_sem]) ?_
      refine (catch_panicking w.heap.size (w.heap.size + 1) _ _ _ _ _ _ _ _ [] _ HB4.out HC4.out (by omega)).mono ?_
      rintro e u' w5 ⟨rfl, rfl, hw⟩
      have HB5 := hide (show Blk w5 w.heap.size 199 #[.int .i64 0, .int .u64 0, .slice none 0 0, .slice none 0 0] by rw [hw]; exact (fin_blk (n := 0) HB4.out).far (p := ⟨w.heap.size + 1, 0, none⟩) (by simp) _)
      have HC5 := hide (show Blk w5 (w.heap.size + 1) 4 #[.bool false] by rw [hw]; exact (HC4.out.only (fin_only _ _ _ _ _ _) (by simp)).set_ 0 _)
      have HO5 := hide (show Only [] w w5 by rw [hw]; exact ((((HO.out.mono (by simp)).trans (ho4.mono (S' := [w.heap.size + 1 + 1]) (by simp)) |>.mono (S' := [w.heap.size, w.heap.size + 1 + 1]) (by simp)).trans ((fin_only w.heap.size 0 0 (.slice none 0 0) (.slice none 0 0) _).mono (by simp))).setCell (p := ⟨w.heap.size + 1, 0, none⟩) (.inr (by simp)) _).mono (by simp; omega))
      have d0 := HB5.out.cell 0
      have d1 := HB5.out.cell 1
      have d2 := HB5.out.cell 2
      have d3 := HB5.out.cell 3
      have e0 := HC5.out.cell 0
      simp at d0 d1 d2 d3 e0
      clear hw
      simp [Leaves, settle, results, Tryz.results120, go_sem, d0, d1, d2, d3, e0]
      exact parse_no HR.out HO5.out
    | some r =>
      obtain ⟨⟨k, n, bs, parts⟩, q⟩ := r
      rw [hr] at HT
      have hqs := (rd_bd s _ _ _ _ _ hr).2
      have RD : True := trivial
      by_cases hq : q = s.size
      · have HR := hide (show parseV s = some (k, n, bs, parts) by rw [HV.out, hr]; simp only; rw [if_pos hq])
        have hqb : ((q : Int) != (s.size : Int)) = false := by rw [bne_eq_false_iff_eq]; omega
        clear hr hq
        go_enter_defers Tryz.func120, Tryz.ntmps120
        go_wp2_with (go_at_call 183; refine (HT.out _ HA.out).mono ?_; rintro e w4 ⟨bv, pv, rfl, ha4, ho4, hb4, hp4⟩; obtain ⟨A, cap, rfl, _, _⟩ := (hb4 [] (by simp)).formb; obtain ⟨A2, cap2, rfl, _, _⟩ := (hp4 rfl [] (by simp)).form; have HRB := hide hb4; have HRP := hide (hp4 rfl); have HB4 := hide (HB.out.only ho4 (by simp; omega)); have HC4 := hide (HC.out.only ho4 (by simp)); have HO4 := hide ((HO.out.mono (S' := [w.heap.size + 1 + 1]) (by simp)).trans ho4); have HB6 := hide (fin_blk (k := k) (n := n) (bv := .slice A bs.length cap) (pv := .slice A2 (strs parts).length cap2) HB4.out); have HC6 := hide (HC4.out.only (fin_only w.heap.size k n (.slice A bs.length cap) (.slice A2 (strs parts).length cap2) w4) (by simp)); have HO6 := hide ((HO4.out.mono (S' := [w.heap.size, w.heap.size + 1 + 1]) (by simp)).trans ((fin_only w.heap.size k n (.slice A bs.length cap) (.slice A2 (strs parts).length cap2) w4).mono (by simp))); have k1 := ha4.cell 1; have b0 := HB4.out.cell 0; have b1 := HB4.out.cell 1; have b2 := HB4.out.cell 2; have b3 := HB4.out.cell 3; have bf := HB4.out.frozen; have c0 := HC4.out.cell 0; have cf := HC4.out.frozen 0; simp at k1 b0 b1 b2 b3 c0; clear ha4 ho4 hb4 hp4)
        refine leaves_cons (f := 182) (args := #[.pointer (some ⟨w.heap.size, 0, none⟩), .pointer (some ⟨w.heap.size + 1, 0, none⟩)]) (by simp) (by simp [go_sem]) ?_
        refine (catch_idle _ _ _).mono ?_
        rintro e u' w5 ⟨rfl, rfl, hw⟩
        have HF := hide (fin_only w.heap.size k n (.slice A bs.length cap) (.slice A2 (strs parts).length cap2) (fin w.heap.size k n (.slice A bs.length cap) (.slice A2 (strs parts).length cap2) w4))
        have HW5 := hide (show w5 = (fin w.heap.size k n (.slice A bs.length cap) (.slice A2 (strs parts).length cap2) (fin w.heap.size k n (.slice A bs.length cap) (.slice A2 (strs parts).length cap2) w4)).setCell ⟨w.heap.size + 1, 0, none⟩ (.bool true) from hw)
        clear hw
        have HB5 := hide (show Blk w5 w.heap.size 199 #[.int .i64 k, .int .u64 n, .slice A bs.length cap, .slice A2 (strs parts).length cap2] by rw [HW5.out]; exact (fin_blk HB6.out).far (p := ⟨w.heap.size + 1, 0, none⟩) (by simp) _)
        have HC5 := hide (show Blk w5 (w.heap.size + 1) 4 #[.bool true] by rw [HW5.out]; exact (HC6.out.only HF.out (by simp)).set_ 0 _)
        have HO64 := hide (show Only [w.heap.size, w.heap.size + 1] w4 w5 by rw [HW5.out]; exact ((((fin_only w.heap.size k n (.slice A bs.length cap) (.slice A2 (strs parts).length cap2) w4).mono (by simp)).trans (HF.out.mono (by simp))).setCell (p := ⟨w.heap.size + 1, 0, none⟩) (.inl (by simp)) _))
        have HO5 := hide (show Only [] w w5 from ((HO4.out.mono (S' := [w.heap.size, w.heap.size + 1, w.heap.size + 1 + 1]) (by simp)).trans (HO64.out.mono (by simp))).mono (by simp; omega))
        have d0 := HB5.out.cell 0
        have d1 := HB5.out.cell 1
        have d2 := HB5.out.cell 2
        have d3 := HB5.out.cell 3
        have e0 := HC5.out.cell 0
        simp at d0 d1 d2 d3 e0
        simp [Leaves, settle, results, Tryz.results120, go_sem, d0, d1, d2, d3, e0]
        refine parse_yes HR.out HO5.out (fun N hN => ?_) (fun N hN => ?_)
        · exact ((HRB.out (w.heap.size :: (w.heap.size + 1) :: N) (by intro x hx; simp at hx ⊢; rcases hx with rfl | rfl | hx; omega; omega; have := hN x hx; omega)).only HO64.out (by simp)).less (by intro x hx; simp [hx])
        · exact ((HRP.out (w.heap.size :: (w.heap.size + 1) :: N) (by intro x hx; simp at hx ⊢; rcases hx with rfl | rfl | hx; omega; omega; have := hN x hx; omega)).only HO64.out (by simp)).less (by intro x hx; simp [hx])
      · have HR := hide (show parseV s = none by rw [HV.out, hr]; simp only; rw [if_neg hq])
        have hqb : ((q : Int) != (s.size : Int)) = true := by rw [bne_iff_ne]; omega
        clear hr hq
        go_enter_defers Tryz.func120, Tryz.ntmps120
        go_wp2_with (go_at_call 183; refine (HT.out _ HA.out).mono ?_; rintro e w4 ⟨bv, pv, rfl, ha4, ho4, hb4, hp4⟩; obtain ⟨A, cap, rfl, _, _⟩ := (hb4 [] (by simp)).formb; obtain ⟨A2, cap2, rfl, _, _⟩ := (hp4 rfl [] (by simp)).form; have HRB := hide hb4; have HRP := hide (hp4 rfl); have HB4 := hide (HB.out.only ho4 (by simp; omega)); have HC4 := hide (HC.out.only ho4 (by simp)); have HO4 := hide ((HO.out.mono (S' := [w.heap.size + 1 + 1]) (by simp)).trans ho4); have HB6 := hide (fin_blk (k := k) (n := n) (bv := .slice A bs.length cap) (pv := .slice A2 (strs parts).length cap2) HB4.out); have HC6 := hide (HC4.out.only (fin_only w.heap.size k n (.slice A bs.length cap) (.slice A2 (strs parts).length cap2) w4) (by simp)); have HO6 := hide ((HO4.out.mono (S' := [w.heap.size, w.heap.size + 1 + 1]) (by simp)).trans ((fin_only w.heap.size k n (.slice A bs.length cap) (.slice A2 (strs parts).length cap2) w4).mono (by simp))); have k1 := ha4.cell 1; have b0 := HB4.out.cell 0; have b1 := HB4.out.cell 1; have b2 := HB4.out.cell 2; have b3 := HB4.out.cell 3; have bf := HB4.out.frozen; have c0 := HC4.out.cell 0; have cf := HC4.out.frozen 0; simp at k1 b0 b1 b2 b3 c0; clear ha4 ho4 hb4 hp4)
        refine leaves_cons (f := 182) (args := #[.pointer (some ⟨w.heap.size, 0, none⟩), .pointer (some ⟨w.heap.size + 1, 0, none⟩)]) (by simp) (by simp [go_sem]) ?_
        refine (catch_panicking w.heap.size (w.heap.size + 1) _ _ _ _ _ _ _ _ [] _ HB6.out HC6.out (by omega)).mono ?_
        rintro e u' w5 ⟨rfl, rfl, hw⟩
        have HB5 := hide (show Blk w5 w.heap.size 199 #[.int .i64 0, .int .u64 0, .slice none 0 0, .slice none 0 0] by rw [hw]; exact (fin_blk (n := 0) HB6.out).far (p := ⟨w.heap.size + 1, 0, none⟩) (by simp) _)
        have HC5 := hide (show Blk w5 (w.heap.size + 1) 4 #[.bool false] by rw [hw]; exact (HC6.out.only (fin_only _ _ _ _ _ _) (by simp)).set_ 0 _)
        have HO5 := hide (show Only [] w w5 by rw [hw]; exact (((HO6.out.mono (S' := [w.heap.size, w.heap.size + 1 + 1]) (by simp)).trans ((fin_only w.heap.size 0 0 (.slice none 0 0) (.slice none 0 0) _).mono (by simp))).setCell (p := ⟨w.heap.size + 1, 0, none⟩) (.inr (by simp)) _).mono (by simp; omega))
        have d0 := HB5.out.cell 0
        have d1 := HB5.out.cell 1
        have d2 := HB5.out.cell 2
        have d3 := HB5.out.cell 3
        have e0 := HC5.out.cell 0
        simp at d0 d1 d2 d3 e0
        clear hw
        simp [Leaves, settle, results, Tryz.results120, go_sem, d0, d1, d2, d3, e0]
        exact parse_no HR.out HO5.out
end
section
open Go.RowKit Go.Deep

def kindT (s : ByteArray) : Int := match parseV s with | none => 0 | some nd => nd.1
def KindPost (s : ByteArray) (w : World) (e : Ending) (w' : World) : Prop := e = .returned (.int .i64 (kindT s)) ∧ Only [] w w'
theorem kindpost {s : ByteArray} {k : Int} {w w' : World} (h : kindT s = k) (ho : Only [] w w') : KindPost s w (.returned (.int .i64 k)) w' := by subst h; exact ⟨rfl, ho⟩

set_option maxRecDepth 100000 in
set_option maxHeartbeats 3200000 in
theorem Kind_any (w : World) (s : ByteArray) (hs : s.size ≤ maxLen) : Calls Tryz.prog 53 #[.string s] w (KindPost s w) := by
  have HP := hide (parse_any w s hs)
  cases hp : parseV s with
  | none =>
    rw [hp] at HP
    have HV := hide (show kindT s = 0 by unfold kindT; rw [hp])
    clear hp
    go_enter Tryz.func53, Tryz.ntmps53
    go_wp2_with (go_at_call 120; refine HP.out.mono ?_; rintro e w1 ⟨rfl, ho⟩; unfold nd0; have HO := hide ho; clear ho)
    go_ret
    exact kindpost HV.out (HO.out.alloc _)
  | some nd =>
    obtain ⟨k, n, bs, parts⟩ := nd
    rw [hp] at HP
    have HV := hide (show kindT s = k by unfold kindT; rw [hp])
    clear hp
    go_enter Tryz.func53, Tryz.ntmps53
    go_wp2_with (go_at_call 120; refine HP.out.mono ?_; rintro e w1 ⟨bv, pv, rfl, ho, hb, hp⟩; obtain ⟨A, cap, rfl, _, _⟩ := (hb [] (by simp)).formb; obtain ⟨A2, cap2, rfl, _, _⟩ := (hp [] (by simp)).form; have HO := hide ho; clear ho hb hp)
    go_ret
    exact kindpost HV.out (HO.out.alloc _)
end
section
open Go.RowKit Go.Deep

/-- Block g is a pair; block c its window. -/
def PairIs (w : World) (g c : Nat) (s1 s2 : ByteArray) (lo re : Int) (beg : Bool) (made sent : Int) : Prop :=
  Blk w g 219 #[.string s1, .string s2, .int .u32 lo, .int .u32 re, .bool beg, .int .i64 made, .int .u64 sent, .pointer (some ⟨c, 0, none⟩)]
theorem PairIs.only {S : List Nat} {w w' : World} {g c : Nat} {s1 s2 : ByteArray} {lo re : Int} {beg : Bool} {made sent : Int} (h : PairIs w g c s1 s2 lo re beg made sent) (ho : Only S w w') (hg : g ∉ S) : PairIs w' g c s1 s2 lo re beg made sent := Blk.only h ho hg
def timeV (t : Int) : Bool := decide (0 ≤ t) && decide (t ≤ 1125899906842624)
end
section
open Go.RowKit Go.Deep

def pv : Option Nat → Value
  | none => .pointer none
  | some b => .pointer (some ⟨b, 0, none⟩)
def SlotsIs (w : World) (S : Nat) (p c n : Option Nat) : Prop := Blk w S 222 #[.pointer none, pv p, pv c, pv n]
/-- A pair's block, known whole. -/
def PairAt (w : World) (g : Nat) : Prop := ∃ cs, w.heap[g]? = some (.cells cs 219 (0, 0))
theorem PairIs.at_ {w : World} {g c : Nat} {s1 s2 : ByteArray} {lo re : Int} {beg : Bool} {made sent : Int} (h : PairIs w g c s1 s2 lo re beg made sent) : PairAt w g := ⟨_, h⟩
theorem PairAt.only {S : List Nat} {w w' : World} {g : Nat} (h : PairAt w g) (ho : Only S w w') (hg : g ∉ S) : PairAt w' g := by
  obtain ⟨cs, h⟩ := h
  exact ⟨cs, Blk.only h ho hg⟩

set_option maxHeartbeats 1600000 in
theorem slots_new (w : World) : Calls Tryz.prog 72 #[] w fun e w' => ∃ S, e = .returned (.pointer (some ⟨S, 0, none⟩)) ∧ w.heap.size ≤ S ∧ SlotsIs w' S none none none ∧ Only [] w w' := by
  go_enter Tryz.func72, Tryz.ntmps72
  go_wp2
  go_ret
  exact ⟨_, rfl, Nat.le_refl _, Blk.new w _ _, (Only.refl [] w).alloc _⟩
end
section
open Go.RowKit Go.Deep

theorem blk_there {w : World} {g : Nat} {t : TypeId} {cs : Array Value} (h : Blk w g t cs) (n : Nat) (hn : n = cs.size) : w.there g 0 n := by
  subst hn
  intro j hj
  rw [Nat.zero_add, h.cell]
  exact ⟨by simp [hj], h.frozen j⟩
theorem blk_stored {w : World} {g : Nat} {t : TypeId} {cs : Array Value} (h : Blk w g t cs) (l : List Value) (hl : l.length = cs.size) : Blk (w.setCells g 0 l) g t l.toArray := h.setCells_whole hl
theorem only_stored {S : List Nat} {a w : World} {g : Nat} (h : Only S a w) (hg : a.heap.size ≤ g) (l : List Value) : Only S a (w.setCells g 0 l) := Only.setCells (.inr hg) 0 l h
theorem blk_far {w : World} {g p : Nat} {t : TypeId} {cs : Array Value} (h : Blk w g t cs) (hp : p ≠ g) (l : List Value) : Blk (w.setCells p 0 l) g t cs := Blk.setCells_far hp 0 l h
end
section
open Go.RowKit Go.Deep
theorem zsa {α : Type} {xs : List α} {i : Nat} (h : i < xs.toArray.size) : xs.toArray[i] = xs[i]'(by simpa using h) := List.getElem_toArray h
theorem zsb {α : Type} (a : α) (l2 : List α) (i : Nat) (h : i + 1 < (a :: l2).length) : (a :: l2)[i + 1] = l2[i]'(by simpa using h) := List.getElem_cons_succ a l2 i h
theorem zsc {α : Type} (a : α) (l2 : List α) (h : 0 < (a :: l2).length) : (a :: l2)[0] = a := List.getElem_cons_zero a l2 h
theorem zsd {α : Type} (l : List α) (i : Nat) (a : α) : l.toArray.setIfInBounds i a = (l.set i a).toArray := List.setIfInBounds_toArray l i a
theorem zse {α : Type} (a b : α) (l : List α) : (a :: l).set 0 b = b :: l := List.set_cons_zero
theorem zsf {α : Type} (a b : α) (l : List α) (n : Nat) : (a :: l).set (n + 1) b = a :: l.set n b := List.set_cons_succ
section
variable {P : Program} {ops : Array Oper} {Q : Exit → Act → World → Prop} {md : Region.Mode} {S : World → Prop}
theorem tk (i : Nat) {oi : Oper} {v : Value} {fuel : Nat} {listed l2 : Array Bool} {a a2 : Act} {w : World} (h : wpAnyH P md ops Q S fuel l2 a2 w) (hi : ops[i]? = some oi := by rfl)
    (hs : Region.noSelect ops = true := by kernel_rfl) (hf : Region.free md ops listed i = true := by kernel_rfl) (hr : (Region.ready md ops listed).contains i = true := by kernel_rfl)
    (hQ : ∀ c a w, Q (.panic c) (a.put oi.dst v) w → Q (.panic c) a w := by exact fun _ _ _ h => h) (hw : Region.wanted oi (yielded ops a.tmps) = true := by rfl)
    (hy : ∀ w, S w → (execOp a.eval oi).run P w = .ok (.value v) w := by (intro w hSw; (try dsimp only at hSw); go_simp; try with_reducible rfl)) (hS : S w := by assumption)
    (hl : listed.setIfInBounds i true = l2 := by (try simp only [List.setIfInBounds_toArray, List.set_cons_zero, List.set_cons_succ]) <;> rfl)
    (ha : a.put oi.dst v = a2 := by (try simp only [List.getElem_toArray, List.getElem_cons_succ, List.getElem_cons_zero, Act.put, List.setIfInBounds_toArray, List.set_cons_zero, List.set_cons_succ]) <;> rfl) :
    wpAnyH P md ops Q S (fuel + 1) listed a w := by
  subst hl ha
  exact wpAnyH_take hi hs hf hr hQ (.inl ⟨hw, hy⟩) hS h
end
theorem cells2 {w : World} {g : Nat} {t : TypeId} {a0 a1 : Value} (h : Blk w g t #[a0, a1]) : w.cell? ⟨g, 0, none⟩ = some a0 ∧ w.cell? ⟨g, 1, none⟩ = some a1 :=
  ⟨h.cell 0, h.cell 1⟩
theorem cells4 {w : World} {g : Nat} {t : TypeId} {a0 a1 a2 a3 : Value} (h : Blk w g t #[a0, a1, a2, a3]) : w.cell? ⟨g, 0, none⟩ = some a0 ∧ w.cell? ⟨g, 1, none⟩ = some a1 ∧ w.cell? ⟨g, 2, none⟩ = some a2 ∧ w.cell? ⟨g, 3, none⟩ = some a3 :=
  ⟨h.cell 0, h.cell 1, h.cell 2, h.cell 3⟩
theorem cells13 {w : World} {g : Nat} {t : TypeId} {a0 a1 a2 a3 a4 a5 a6 a7 a8 a9 a10 a11 a12 : Value} (h : Blk w g t #[a0, a1, a2, a3, a4, a5, a6, a7, a8, a9, a10, a11, a12]) : w.cell? ⟨g, 0, none⟩ = some a0 ∧ w.cell? ⟨g, 1, none⟩ = some a1 ∧ w.cell? ⟨g, 2, none⟩ = some a2 ∧ w.cell? ⟨g, 3, none⟩ = some a3 ∧ w.cell? ⟨g, 4, none⟩ = some a4 ∧ w.cell? ⟨g, 5, none⟩ = some a5 ∧ w.cell? ⟨g, 6, none⟩ = some a6 ∧ w.cell? ⟨g, 7, none⟩ = some a7 ∧ w.cell? ⟨g, 8, none⟩ = some a8 ∧ w.cell? ⟨g, 9, none⟩ = some a9 ∧ w.cell? ⟨g, 10, none⟩ = some a10 ∧ w.cell? ⟨g, 11, none⟩ = some a11 ∧ w.cell? ⟨g, 12, none⟩ = some a12 :=
  ⟨h.cell 0, h.cell 1, h.cell 2, h.cell 3, h.cell 4, h.cell 5, h.cell 6, h.cell 7, h.cell 8, h.cell 9, h.cell 10, h.cell 11, h.cell 12⟩
theorem hon {w w' : World} {g : Nat} {t : TypeId} {cs : Array Value} (h : Hid (Blk w g t cs)) (ho : Only [] w w') : Hid (Blk w' g t cs) := hide (h.out.only ho (by simp))
theorem htr {S : List Nat} {a w w' : World} (h : Hid (Only S a w)) (ho : Only S w w') : Hid (Only S a w') := hide (h.out.trans ho)
end
section
open Go.RowKit Go.Deep

def hd (n : Nat) : UInt8 := if n < 10 then UInt8.ofNat (48 + n) else UInt8.ofNat (87 + n)
theorem hd_nat (n : Nat) (h : n < 16) : (hd n).toNat = if n < 10 then 48 + n else 87 + n := by
  unfold hd; split <;> simp [UInt8.toNat_ofNat'] <;> omega
def hexS : List UInt8 → List UInt8
  | [] => []
  | b :: r => hd (b.toNat / 16) :: hd (b.toNat % 16) :: hexS r
theorem hexS_append : ∀ l m : List UInt8, hexS (l ++ m) = hexS l ++ hexS m
  | [], m => rfl
  | b :: r, m => by simp only [List.cons_append, hexS, hexS_append r m]
theorem hexS_length : ∀ l : List UInt8, (hexS l).length = 2 * l.length
  | [] => rfl
  | b :: r => by simp only [hexS, List.length_cons, hexS_length r]; omega
theorem dig_at (n : Nat) (h : n < 16) (W : World) : (Instr.index 9 (.string ⟨#[48, 49, 50, 51, 52, 53, 54, 55, 56, 57, 97, 98, 99, 100, 101, 102]⟩) (.int .u8 (n : Int))).run Tryz.prog W = .ok (.int .u8 ((hd n).toNat : Int)) W := by
  rcases (show n = 0 ∨ n = 1 ∨ n = 2 ∨ n = 3 ∨ n = 4 ∨ n = 5 ∨ n = 6 ∨ n = 7 ∨ n = 8 ∨ n = 9 ∨ n = 10 ∨ n = 11 ∨ n = 12 ∨ n = 13 ∨ n = 14 ∨ n = 15 by omega) with rfl | rfl | rfl | rfl | rfl | rfl | rfl | rfl | rfl | rfl | rfl | rfl | rfl | rfl | rfl | rfl
  all_goals kernel_rfl
theorem reads_two (w : World) (e : TypeId) (x y : Value) (B : Nat) (hB : w.heap.size < B) : Reads (w.alloc (.cells #[x, y] e)) B 1 (some ⟨w.heap.size, 0, none⟩) 2 [x, y] :=
  ⟨rfl, fun _ => ⟨_, rfl, hB, fun j u hu => by
    rw [add_mk, Nat.zero_add, (Blk.new w e #[x, y]).cell j]
    simpa using hu⟩⟩
theorem take_snoc_l {α : Type} (l : List α) (k : Nat) (x : α) (h : l[k]? = some x) : l.take (k + 1) = l.take k ++ [x] := by
  rw [List.take_add_one, h]; rfl
theorem two_hex {v : Value} {w' : World} {B e k : Nat} {l : List UInt8} {c : UInt8} (h : w'.ownsRow B e 1 v (2 * k + 2) (ints .u8 (byts (hexS (l.take k))) ++ [.int .u8 ((hd (c.toNat / 16)).toNat : Int), .int .u8 ((hd (c.toNat % 16)).toNat : Int)])) (hc : l[k]? = some c) :
    w'.ownsRow B e 1 v (2 * (k + 1)) (ints .u8 (byts (hexS (l.take (k + 1))))) := by
  rw [take_snoc_l l k c hc, hexS_append, byts_append, ← ints_snoc_list]
  exact h
def StrPost (l : List UInt8) (w : World) (e : Ending) (w' : World) : Prop := e = .returned (.string ⟨l.toArray⟩) ∧ Only [] w w'
theorem strpost {l m : List UInt8} {w w' : World} (h : l = m) (ho : Only [] w w') : StrPost l w (.returned (.string ⟨m.toArray⟩)) w' := by subst h; exact ⟨rfl, ho⟩

set_option maxRecDepth 100000 in
set_option maxHeartbeats 6400000 in
theorem num_hex (w : World) (N : List Nat) (v : Value) (l : List UInt8) (hv : Rd w N v (ints .u8 (byts l))) (hl : l.length ≤ 1000000) :
    Calls Tryz.prog 231 #[v] w (StrPost (hexS l) w) := by
  obtain ⟨A, cap, rfl, hcap, hmx⟩ := hv.formb
  have HV := hide hv
  obtain ⟨n, hn⟩ : ∃ n, n = l.length := ⟨_, rfl⟩
  have HN := hide hn
  rw [← hn] at hcap HV hl ⊢
  clear hv hn
  obtain ⟨i0, hi, hz0, hz1, hz2⟩ := info_parts (show (Tryz.prog.info? 5).map (fun i => (i.zero, i.size, i.bytes)) = some (some (.int .u8 0), 1, 1) by kernel_rfl)
  have hwl : IntKind.i64.wrap (2 * (n : Int)) = 2 * (n : Int) := IntWalk.i64_in _ (by omega)
  have hmk : ∀ W, (Instr.makeSlice 37 (.int .i64 0) (.int .i64 (2 * (n : Int)))).run Tryz.prog W = .ok (.slice (some ⟨W.heap.size, 0, none⟩) 0 (2 * n)) (W.alloc (.cells (Array.replicate (2 * n) (.int .u8 0)) 5)) := by
    intro W
    exact run_make_row W 37 5 i0 _ Tryz.underlying37 hi hz0 hz1 rfl .i64 .i64 0 (2 * n) (Nat.zero_le _) (by rw [hz2]; omega) (by omega)
  have HOW := hide (World.ownsRow_made (base := w.heap.size) w (Array.replicate (2 * n) (.int .u8 0)) (2 * n) (Nat.le_refl _) (by unfold maxLen; omega) (e := 5) (size := 1) (by simp))
  have HO := hide ((Only.refl [] w).alloc (.cells (Array.replicate (2 * n) (.int .u8 0)) 5))
  go_enter Tryz.func231, Tryz.ntmps231
  go_wp2_with fail
  obtain ⟨w0, hw0⟩ : ∃ w0, w0 = w.alloc (.cells (Array.replicate (2 * n) (.int .u8 0)) 5) := ⟨_, rfl⟩
  rw [← hw0] at HOW HO ⊢
  have hsz : w.heap.size ≤ w0.heap.size := HO.out.size
  clear hw0 hmk hwl
  go_loopw [3, 12] (fun v i wr => ∃ k : Nat, k ≤ n ∧ i = .int .i64 k ∧ Hid (wr.ownsRow w.heap.size 5 1 v (2 * k) (ints .u8 (byts (hexS (l.take k))))) ∧ Hid (Only [] w wr)) (fun _ i _ => n - (intOf i).toNat)
  case atStart => exact ⟨0, Nat.zero_le _, rfl, HOW, HO⟩
  case round =>
    obtain ⟨k, hk, rfl, how, ho⟩ := hrel
    by_cases hlt : k < n
    · have hlt' : (k : Int) < n := by omega
      have hkl : k < l.length := by rw [← HN.out]; exact hlt
      obtain ⟨c, hc⟩ : ∃ c, l[k]? = some c := ⟨l[k], List.getElem?_eq_getElem hkl⟩
      have HC := hide hc
      obtain ⟨g, o, rfl, _, hg, hcell⟩ := HV.out.at_.2.2.2 k (.int .u8 (c.toNat : Int)) (ints_get (byts_get hc))
      have c1 : wr.cell? ⟨g, o + k, none⟩ = some (.int .u8 (c.toNat : Int)) := (cell_only ho.out hg (by simp)).trans hcell
      have hc256 := c.toNat_lt
      have hcI : (c.toNat : Int) < 256 := by omega
      have hA := fun W => dig_at (c.toNat / 16) (by omega) W
      have hB := fun W => dig_at (c.toNat % 16) (by omega) W
      rw [show ((c.toNat / 16 : Nat) : Int) = (c.toNat : Int) / 16 by omega] at hA
      rw [show ((c.toNat % 16 : Nat) : Int) = (c.toNat : Int) % 16 by omega] at hB
      have hband : bits .and .u8 (c.toNat : Int) 15 = (c.toNat : Int) % 16 := u8_and15 _ (by omega) (by omega)
      obtain ⟨Av, cv, rfl, hjc, hcm⟩ := own_form how.out
      have HSZ := hide ho.out.size
      obtain ⟨x, hx⟩ : ∃ x, x = (hd (c.toNat / 16)).toNat := ⟨_, rfl⟩
      obtain ⟨y, hy⟩ : ∃ y, y = (hd (c.toNat % 16)).toNat := ⟨_, rfl⟩
      rw [← hx] at hA
      rw [← hy] at hB
      have HX := hide hx
      have HY := hide hy
      have HOW2 := hide (World.ownsRow.alloc (own_only how.out ((Only.refl [] wr).drew) (by simp)) (.cells #[.int .u8 (x : Int), .int .u8 (y : Int)] 5))
      have HO2 := hide (ho.out.drew.alloc (.cells #[.int .u8 (x : Int), .int .u8 (y : Int)] 5))
      have HRN := hide (reads_two wr.drew 5 (.int .u8 (x : Int)) (.int .u8 (y : Int)) (wr.heap.size + 1) (Nat.lt_succ_self _))
      clear hc hcell hx hy
      go_upto_region 5 with (fail)
      go_region_held3 (fun _ => True) (exact trivial)
        (first
        | (refine step_append_any _ rfl (.tmp 16) (.tmp 23) 37 rfl w.heap.size 5 i0 (.int .u8 0) 1 1 Tryz.underlying37 hi hz0 hz1 hz2 rfl (by decide) _ (2 * k) _ rfl HOW2.out _ _ 2 2 [.int .u8 (x : Int), .int .u8 (y : Int)] rfl HRN.out (by simp [Value.oneCell']) (by unfold maxLen; omega) (by omega) (by have := HSZ.out; simp; omega) ?_; intro v1 w3 hown1 hg1 _; rw [HX.out, HY.out] at hown1; have HOW3 := hide (two_hex hown1 HC.out); have HO3 := hide (HO2.out.grown hg1 (fun j hj => .inr (own_block_ge HOW2.out hj))); clear hown1 hg1))
      all_goals
        go_wp2_with fail
        go_roundw
        case rel => exact ⟨k + 1, by omega, by go_num, HOW3, HO3⟩
        case measure => simp [intOf]; omega
    · obtain rfl : k = n := by omega
      have hge : ¬ (k : Int) < k := by omega
      obtain ⟨Av, cv, rfl, hjc, hcm⟩ := own_form how.out
      have HRD := hide (Rd.of_own (N := []) how.out (by simp)).1
      rw [List.take_of_length_le (Nat.le_of_eq HN.out.symm)] at HRD
      have hcv := rd_string (P := Tryz.prog) HRD.out 37 9 5 Tryz.underlying37 Tryz.underlying5 Tryz.underlying9
      go_wp2_with fail
      go_ret
      exact strpost rfl ho.out
end
section
open Go.RowKit Go.Deep Go.Sort Go.Lib

/-- The table of powers of ten, as laid. -/
def Tab (w : World) : Prop := Lib.TabIs Tryz.prog w "internal/strconv.uint64pow10" .u64 Lib.pow10Tab
theorem Tab.only {S : List Nat} {w w' : World} (h : Tab w) (ho : Only S w w') (hS : ∀ x ∈ S, w.heap.size ≤ x) : Tab w' := by
  unfold Tab Lib.TabIs at h ⊢
  unfold World.var? at h ⊢
  cases hg : Tryz.prog.globalNamed "internal/strconv.uint64pow10" with
  | none => rw [hg] at h; simp at h
  | some g =>
    rw [hg] at h
    simp only [Option.bind_some] at h ⊢
    have hlt : g < w.heap.size := by
      rcases Nat.lt_or_ge g w.heap.size with h' | h'
      · exact h'
      · rw [Array.getElem?_eq_none h'] at h; simp at h
    rw [ho.block g hlt (fun hx => by have := hS g hx; omega)]
    exact h

theorem only_grow (w : World) (os : Array Obj) : Only [] w (grow w os) := ⟨rfl, rfl, rfl, by simp [grow], fun i hi _ => by simp [grow, Array.getElem?_append_left hi]⟩
theorem holds_zero0 (w : World) (T : TypeId) (nd : Nat) (hs : nd ≤ 24) : Holds (fun (b : UInt8) => Value.int .u8 (b.toNat : Int)) (w.alloc (.cells Lib.zeros24 T)) w.heap.size 0 (Array.replicate nd (0 : UInt8)) := fun j hj => by
  have hj' : j < nd := by simpa using hj
  refine ⟨?_, World.frozen?_alloc_new _ _ _ _⟩
  rw [World.cell?_alloc_new, Nat.zero_add, Lib.zeros24_at _ (by omega), getElem!_pos _ j hj]
  simp

set_option maxHeartbeats 6400000 in
set_option maxRecDepth 100000 in
theorem format_uint (u : Nat) (hu64 : u < 18446744073709551616) (w : World) (htab : Tab w) :
    Calls Tryz.prog 235 #[.int .u64 u, .int .i64 10] w (StrPost (Lib.decDigits u) w) := by
  by_cases hs : u < 100
  · have hs' : (u : Int) < 100 := by omega
    go_enter Tryz.func235, Tryz.ntmps235
    go_wp2_with (go_at_call 244; refine (Tryz.internal_strconv_small u hs _).mono ?_; rintro e w' ⟨rfl, rfl⟩)
    go_ret
    exact strpost rfl (Only.refl _ _)
  · have hs' : ¬ (u : Int) < 100 := by omega
    have hu1 : 1 ≤ u := by omega
    have hnd20 : Lib.nDigits u ≤ 20 := by have := Lib.numDigits_eq u hu1 hu64; split at this <;> omega
    have hal : Tryz.prog.arrayLen 327 = 24 := by kernel_rfl
    have hsl1 : ∀ W, (Instr.sliceAt 327 (.pointer (some ⟨w.heap.size, 0, none⟩)) none (some (.int .i64 (Lib.nDigits u : Int))) none).run Tryz.prog W = .ok (.slice (some ⟨w.heap.size, 0, none⟩) (Lib.nDigits u) 24) W := fun W => by
      rw [run_sliceAt_array_h W 327 ⟨w.heap.size, 0, none⟩ (by simp [Program.arrayLen, Program.elem, Tryz.underlying327]) .i64 (Lib.nDigits u : Int) (by omega) (by rw [hal]; omega)]
      go_simp
    have hH0 := holds_zero0 w 327 (Lib.nDigits u) (by omega)
    have hfmt := Tryz.internal_strconv_formatBase10 w.heap.size 0 24 u (Array.replicate (Lib.nDigits u) 0) (w.alloc (.cells Lib.zeros24 327)) hH0 (by rw [Array.size_replicate]; exact Lib.lt_pow_nDigits u) hu64 (by rw [Array.size_replicate]; omega)
    rw [Array.size_replicate] at hfmt
    have HH0 := Lib.hid hH0
    have HT := Lib.hid (Lib.tabIs_alloc htab (.cells Lib.zeros24 327))
    clear hH0 hal htab
    go_enter Tryz.func235, Tryz.ntmps235
    go_wp2_with (go_at_call 245; refine (Tryz.internal_strconv_numDigits u hu1 hu64 _ HT.out).mono ?_; rintro e w' ⟨rfl, rfl⟩)
    refine hfmt.mono ?_
    rintro e w' ⟨rfl, k, v', dk, hw', hF⟩
    have hcv : (convert 37 9 (.slice (some ⟨w.heap.size, 0, none⟩) (Lib.nDigits u) 24)).run Tryz.prog w' = .ok (.string ⟨(Lib.decDigits u).toArray⟩) w' := by
      have h := run_convert_bytes_back (P := Tryz.prog) w' 37 9 5 ⟨w.heap.size, 0, none⟩ 24 (Lib.decDigits u) Tryz.underlying37 Tryz.underlying5 Tryz.underlying9 (fun j hj => by
        rw [Lib.row_is_numeral hF j hj, Lib.add_plain, hw', World.cell?_drewN]
        exact cell?_putRow (fun (b : UInt8) => Value.int .u8 (b.toNat : Int)) _ w.heap.size 0 _ dk HH0.out (by rw [hF.size, Array.size_replicate]) j (by rw [hF.size]; rw [Lib.decDigits_length] at hj; exact hj))
      rw [Lib.decDigits_length] at h
      exact h
    have HO := hide (show Only [] w w' by
      rw [hw', alloc_eq_grow]
      obtain ⟨os', _, e⟩ := putRow_grow_new (fun (b : UInt8) => Value.int .u8 (b.toNat : Int)) w #[.cells Lib.zeros24 327] w.heap.size 0 dk (Nat.le_refl _)
      rw [e]
      exact (only_grow w os').drewN k)
    clear hw' hF hfmt
    go_wp2_with fail
    go_ret
    exact strpost rfl HO.out

set_option maxHeartbeats 1600000 in
theorem print_any (u : Nat) (hu64 : u < 18446744073709551616) (w : World) (htab : Tab w) :
    Calls Tryz.prog 170 #[.int .u64 u] w (StrPost (Lib.decDigits u) w) := by
  have HF := hide (format_uint u hu64 w htab)
  clear hu64 htab
  go_enter Tryz.func170, Tryz.ntmps170
  go_wp2_with (first
    | (go_at_call 235; refine HF.out.mono ?_; rintro e w1 ⟨rfl, ho⟩; have HO := hide ho; clear ho)
    | go_in)
  go_ret
  exact strpost rfl HO.out
end
section
open Go.RowKit Go.Deep

/-- A handshake that was begun: its block, what noise keeps of it, its times, the first sum of what was sent. -/
structure Sk where
  g : Nat
  sd : Nat
  e : ByteArray
  c : ByteArray
  h : ByteArray
  bg : Int
  st : Int
  m1 : ByteArray
def skC (s : Sk) : Array Value := #[.int .u32 (s.sd : Nat), .string s.e, .string s.c, .string s.h, .int .i64 s.bg, .int .i64 s.st, .string s.m1]
def skV : Option Sk → Value
  | none => .pointer none
  | some s => .pointer (some ⟨s.g, 0, none⟩)
/-- A peer: its keys, where it is, the blocks of its ring and its slots, its handshake, its cookie, its stamp, its marks. -/
structure Pr where
  pub : ByteArray
  shr : ByteArray
  ep : Int
  rg : Nat
  sl : Nat
  sk : Option Sk
  ck : ByteArray
  cm : Int
  sp : Bool
  sm : Nat
  ow : Bool
  ot : Int
  wa : Bool
  wt : Int
def prC (p : Pr) : Array Value := #[.string p.pub, .string p.shr, .int .i64 p.ep, .pointer (some ⟨p.rg, 0, none⟩), .pointer (some ⟨p.sl, 0, none⟩), skV p.sk, .string p.ck, .int .i64 p.cm, .bool p.sp, .int .u64 (p.sm : Nat), .bool p.ow, .int .i64 p.ot, .bool p.wa, .int .i64 p.wt]
def PeerIs (w : World) (g : Nat) (p : Pr) : Prop := Blk w g 110 (prC p) ∧ ∀ s, p.sk = some s → s.g ≠ g ∧ Blk w s.g 114 (skC s)
theorem PeerIs.only {S : List Nat} {w w' : World} {g : Nat} {p : Pr} (h : PeerIs w g p) (ho : Only S w w') (hg : g ∉ S) (hs : ∀ s, p.sk = some s → s.g ∉ S) : PeerIs w' g p :=
  ⟨h.1.only ho hg, fun s e => ⟨(h.2 s e).1, (h.2 s e).2.only ho (hs s e)⟩⟩
theorem time15 (t : Int) (w : World) : Calls Tryz.prog 52 #[.int .i64 t] w fun e w' => e = .returned (.bool (timeV t)) ∧ w = w' := by
  go_enter Tryz.func52, Tryz.ntmps52
  go_wp2
  all_goals
    go_ret
    exact ⟨by first | (simp_all [timeV]; done) | (simp_all [timeV]; omega), rfl⟩
theorem wrap_step {k n : Nat} (h : k < n) (hn : n ≤ maxLen) : wrap64 ((k : Int) + 1) = ((k + 1 : Nat) : Int) := by unfold maxLen at hn; unfold wrap64; omega
theorem step_less {k n : Nat} (h : k < n) (hn : n ≤ maxLen) : n - (intOf (.int .i64 (wrap64 ((k : Int) + 1)))).toNat < n - (intOf (.int .i64 (k : Int))).toNat := by
  rw [wrap_step h hn]
  simp only [intOf, Int.toNat_natCast]
  omega
def CellsPost (k : Int) (m : Array Value) (w : World) (e : Ending) (w' : World) : Prop := e = .returned (.tuple #[.agg m, .int .i64 k]) ∧ Only [] w w'
theorem since {w0 w W : World} {S : List Nat} (h0 : Only [] w0 w) (hS : ∀ x ∈ S, w0.heap.size ≤ x) (h : Only S w W) : Only [] w0 W :=
  ((h0.mono (S' := S) (by simp)).trans h).mono (fun x hx => .inr (hS x hx))
end
section

/-- The mask of a byte at a place, if b bits are the first ones. -/
def maskN (p b : Nat) : Nat := 256 - 2 ^ (8 - min 8 (b - 8 * p))
def sameP (l m : List UInt8) (b : Nat) : Prop := ∀ k, k < l.length → (l.getD k 0).toNat &&& maskN k b = (m.getD k 0).toNat &&& maskN k b
instance (l m : List UInt8) (b : Nat) : Decidable (sameP l m b) := by unfold sameP; infer_instance
theorem getD_some {l : List UInt8} {k : Nat} (h : k < l.length) : l[k]? = some (l.getD k 0) := by
  rw [List.getD, List.getElem?_eq_getElem h]; rfl
end
section
open Go.RowKit Go.Deep

def RetB (r : Bool) (w : World) (e : Ending) (w' : World) : Prop := e = .returned (.bool r) ∧ Only [] w w'
theorem retb {r s : Bool} {w w' : World} (h : r = s) (ho : Only [] w w') : RetB r w (.returned (.bool s)) w' := by subst h; exact ⟨rfl, ho⟩
theorem results_cell_two {P : Program} {fn : Func} {p q : Tmp} {ty : TypeId} (h : fn.results = #[.cell p ty, .tmp q]) (tmps : Array Value) (w : World) (g : Nat) (t : TypeId) (cs : Array Value) (fr : Nat × Nat) (d : TypeDesc)
    (hp : tmps.getD p undef = .pointer (some ⟨g, 0, none⟩)) (hg : w.heap[g]? = some (.cells cs t fr))
    (hu : P.underlying ty = some d) (hd : (match d with | .struct _ | .array _ _ => true | _ => false) = true) (hi : (P.info? ty).map (·.size) = some cs.size) :
    (results fn tmps).run P w = .ok (.tuple #[.agg cs, tmps.getD q undef]) w := by
  have hp' : tmps[p]?.getD undef = .pointer (some ⟨g, 0, none⟩) := by simpa using hp
  simp [results, h, hp', asAddr, run_loadVar_row w g t ty cs fr d hg hu hd hi]
end
end Go.Proofs.YtcokjoidpnfjhaaGreatDoor

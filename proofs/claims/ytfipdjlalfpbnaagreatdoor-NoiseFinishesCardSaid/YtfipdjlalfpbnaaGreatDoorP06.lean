/-
  Walks and plain words (texts Tm8, Tm9, Hex, Nr1, Nr2). No condition beyond those that each theorem states.
-/
import Derived.Defers
import Derived.Recover
import Derived.Lib.ItoaMem
import Derived.StillTailTactics
import Derived.Test.YtfipdjlalfpbnaaGreatDoorP03
import Derived.Test.YtfipdjlalfpbnaaGreatDoorP05
namespace Go.Proofs.YtfipdjlalfpbnaaGreatDoor
section
open Go.RowKit Go.Deep

theorem term_all (s : ByteArray) : ∀ f, TSaid s f := by
  intro f
  induction f using Nat.strongRecOn with
  | _ f ih =>
    cases f with
    | zero => intro w g p keep _ _ _ h; omega
    | succ f => exact read_any s f (rest_any s f fun f' h => ih f' (by omega))

theorem catch_idle (p q : Addr) (w : World) :
    CallsD Tryz.prog 130 #[.pointer (some p), .pointer (some q)] .returning w fun e u' w' => e = .returned (.tuple #[]) ∧ u' = .returning ∧ w' = w := by
  refine callsD_of_wpS Tryz.func130 rfl fun c₀ cs hu => ?_
  apply wpS_seq
  apply wpS_region
  simp [wpOpsS, go_sem, recoverD, hu, Tryz.ntmps130, Exit.thenS]
  apply wpS_seq
  apply wpS_region
  simp [wpOpsS, go_sem, Exit.thenS]
  refine wpS_cond (t := false) (by simp [Act.eval, Array.replicate]) ?_
  simp only [Bool.false_eq_true, if_false]
  refine wpS_of_wp (wp_skip ?_)
  cases c₀
  simp_all [bodyPostS, results, Tryz.results130]

theorem catch_panicking (B C : Nat) (u : TypeId) (pv a b c d x : Value) (tb : TypeId) (older : List PanicEntry) (w : World) (hB : Blk w B 145 #[a, b, c, d]) (hC : Blk w C tb #[x]) (hne : B ≠ C) :
    CallsD Tryz.prog 130 #[.pointer (some ⟨B, 0, none⟩), .pointer (some ⟨C, 0, none⟩)] (.panicking ({ v := .iface u pv, recovered := false } :: older)) w fun e u' w' =>
      e = .returned (.tuple #[]) ∧ u' = .panicking ({ v := .iface u pv, recovered := true } :: older) ∧ w' = (fin B 0 0 (.slice none 0 0) (.slice none 0 0) w).setCell ⟨C, 0, none⟩ (.bool false) := by
  have b0 := hB.cell 0
  have b1 := hB.cell 1
  have b2 := hB.cell 2
  have b3 := hB.cell 3
  have bf := hB.frozen
  have c0 := hC.cell 0
  have cf := hC.frozen 0
  simp at b0 b1 b2 b3 c0
  refine callsD_of_wpS Tryz.func130 rfl fun c₀ cs hu => ?_
  apply wpS_seq
  apply wpS_region
  simp [wpOpsS, go_sem, recoverD, hu, Tryz.ntmps130, Exit.thenS]
  apply wpS_seq
  apply wpS_region
  simp [wpOpsS, go_sem, Exit.thenS]
  refine wpS_cond (t := true) (by simp [Act.eval, Array.replicate]) ?_
  simp only [if_true]
  apply wpS_region
  simp [wpOpsS, go_sem, b0, b1, b2, b3, bf, c0, cf, bodyPostS, results, Tryz.results130]
  rfl

/-- A text as a term as a whole. -/
def parseV (s : ByteArray) : Option Nd :=
  if 65536 < s.size then none else
    match rd s (2 * s.size + 2) none 0 with
    | none => none
    | some (nd, q) => if q = s.size then some nd else none
def nd0 : Value := .agg #[.int .i64 0, .int .u64 0, .slice none 0 0, .slice none 0 0]
def ParsePost (r : Option Nd) (w : World) (e : Ending) (w' : World) : Prop :=
  match r with
  | none => e = .returned (.tuple #[nd0, .bool false]) ∧ Only [] w w'
  | some nd => ∃ bv pv, e = .returned (.tuple #[.agg #[.int .i64 nd.1, .int .u64 nd.2.1, bv, pv], .bool true]) ∧ Only [] w w' ∧
      (∀ N : List Nat, (∀ x ∈ N, x < w.heap.size) → Rd w' N bv (ints .u8 (byts nd.2.2.1))) ∧ (∀ N : List Nat, (∀ x ∈ N, x < w.heap.size) → Rd w' N pv (strs nd.2.2.2))
theorem parse_no {r : Option Nd} {w w' : World} (h : r = none) (ho : Only [] w w') : ParsePost r w (.returned (.tuple #[nd0, .bool false])) w' := by
  subst h; exact ⟨rfl, ho⟩

theorem parse_yes {r : Option Nd} {w w' : World} {k : Int} {n : Nat} {bs : List UInt8} {parts : List ByteArray} {bv pv : Value} (h : r = some (k, n, bs, parts)) (ho : Only [] w w')
    (hb : ∀ N : List Nat, (∀ x ∈ N, x < w.heap.size) → Rd w' N bv (ints .u8 (byts bs))) (hp : ∀ N : List Nat, (∀ x ∈ N, x < w.heap.size) → Rd w' N pv (strs parts)) :
    ParsePost r w (.returned (.tuple #[.agg #[.int .i64 k, .int .u64 n, bv, pv], .bool true])) w' := by
  subst h; exact ⟨_, _, rfl, ho, hb, hp⟩
def zs4 : Array Value := #[.int .i64 0, .int .u64 0, .slice none 0 0, .slice none 0 0]
set_option maxRecDepth 100000 in
set_option maxHeartbeats 3200000 in
theorem parse_any (w : World) (s : ByteArray) (hs : s.size ≤ maxLen) : Calls Tryz.prog 107 #[.string s] w (ParsePost (parseV s) w) := by
  unfold maxLen at hs
  have hmf : ∀ (fn : Fn) (first cap : Array Value) (w : World), (Instr.makeFunc fn first cap).run Tryz.prog w = .ok (.func fn first cap) w := fun _ _ _ _ => rfl
  by_cases hlt : 65536 < s.size
  · have hltI : (65536 : Int) < s.size := by omega
    have HR := hide (show parseV s = none by unfold parseV; rw [if_pos hlt])
    have HO := hide (((Only.refl [] w).alloc (.cells zs4 145)).alloc (.cells #[.bool false] 4))
    clear hlt
    go_enter_defers Tryz.func107, Tryz.ntmps107
    go_wp2_with fail
    simp [Leaves, results, Tryz.results107, go_sem, bodyPostD]
    exact parse_no HR.out HO.out
  · have hltI : ¬ (65536 : Int) < s.size := by omega
    have HT := hide (fun W h => term_all s (2 * s.size + 2) W (w.heap.size + 1 + 1) 0 true h (Nat.zero_le _) (by omega) (by omega))
    have HV := hide (show parseV s = match rd s (2 * s.size + 2) none 0 with | none => none | some (nd, q) => if q = s.size then some nd else none by unfold parseV; rw [if_neg hlt])
    have HO := hide ((((Only.refl [] w).alloc (.cells zs4 145)).alloc (.cells #[.bool false] 4)).alloc (.cells #[.string s, .int .i64 0] 180))
    have HB := hide (((Blk.new w 145 zs4).alloc (.cells #[.bool false] 4)).alloc (.cells #[.string s, .int .i64 0] 180))
    have HC := hide (show Blk (((w.alloc (.cells zs4 145)).alloc (.cells #[.bool false] 4)).alloc (.cells #[.string s, .int .i64 0] 180)) (w.heap.size + 1) 4 #[.bool false] by
      have h := (Blk.new (w.alloc (.cells zs4 145)) 4 #[.bool false]).alloc (.cells #[.string s, .int .i64 0] 180)
      simpa using h)
    have HA := hide (show At (w.heap.size + 1 + 1) s 0 (((w.alloc (.cells zs4 145)).alloc (.cells #[.bool false] 4)).alloc (.cells #[.string s, .int .i64 0] 180)) by
      have h := Blk.new ((w.alloc (.cells zs4 145)).alloc (.cells #[.bool false] 4)) 180 #[.string s, .int .i64 0]
      simpa [At] using h)
    unfold zs4 at HO HB HC HA
    cases hr : rd s (2 * s.size + 2) none 0 with
    | none =>
      have HR := hide (show parseV s = none by rw [HV.out, hr])
      rw [hr] at HT
      clear hr
      go_enter_defers Tryz.func107, Tryz.ntmps107
      go_wp2_with (go_at_call 131; refine (HT.out _ HA.out).mono ?_; rintro e w4 ⟨rfl, ho4⟩)
      have HB4 := hide (HB.out.only ho4 (by simp; omega))
      have HC4 := hide (HC.out.only ho4 (by simp))
      refine leaves_cons (f := 130) (args := #[.pointer (some ⟨w.heap.size, 0, none⟩), .pointer (some ⟨w.heap.size + 1, 0, none⟩)]) (by simp) (by simp [go_sem]) ?_
      refine (catch_panicking w.heap.size (w.heap.size + 1) _ _ _ _ _ _ _ _ [] _ HB4.out HC4.out (by omega)).mono ?_
      rintro e u' w5 ⟨rfl, rfl, hw⟩
      have HB5 := hide (show Blk w5 w.heap.size 145 #[.int .i64 0, .int .u64 0, .slice none 0 0, .slice none 0 0] by rw [hw]; exact (fin_blk (n := 0) HB4.out).far (p := ⟨w.heap.size + 1, 0, none⟩) (by simp) _)
      have HC5 := hide (show Blk w5 (w.heap.size + 1) 4 #[.bool false] by rw [hw]; exact (HC4.out.only (fin_only _ _ _ _ _ _) (by simp)).set_ 0 _)
      have HO5 := hide (show Only [] w w5 by rw [hw]; exact ((((HO.out.mono (by simp)).trans (ho4.mono (S' := [w.heap.size + 1 + 1]) (by simp)) |>.mono (S' := [w.heap.size, w.heap.size + 1 + 1]) (by simp)).trans ((fin_only w.heap.size 0 0 (.slice none 0 0) (.slice none 0 0) _).mono (by simp))).setCell (p := ⟨w.heap.size + 1, 0, none⟩) (.inr (by simp)) _).mono (by simp; omega))
      have d0 := HB5.out.cell 0
      have d1 := HB5.out.cell 1
      have d2 := HB5.out.cell 2
      have d3 := HB5.out.cell 3
      have e0 := HC5.out.cell 0
      simp at d0 d1 d2 d3 e0
      clear hw
      simp [Leaves, settle, results, Tryz.results107, go_sem, d0, d1, d2, d3, e0]
      exact parse_no HR.out HO5.out
    | some r =>
      obtain ⟨⟨k, n, bs, parts⟩, q⟩ := r
      rw [hr] at HT
      have hqs := (rd_bd s _ _ _ _ _ hr).2
      have RD : True := trivial
      by_cases hq : q = s.size
      · have HR := hide (show parseV s = some (k, n, bs, parts) by rw [HV.out, hr]; simp only; rw [if_pos hq])
        have hqb : ((q : Int) != (s.size : Int)) = false := by rw [bne_eq_false_iff_eq]; omega
        clear hr hq
        go_enter_defers Tryz.func107, Tryz.ntmps107
        go_wp2_with (go_at_call 131; refine (HT.out _ HA.out).mono ?_; rintro e w4 ⟨bv, pv, rfl, ha4, ho4, hb4, hp4⟩; obtain ⟨A, cap, rfl, _, _⟩ := (hb4 [] (by simp)).formb; obtain ⟨A2, cap2, rfl, _, _⟩ := (hp4 rfl [] (by simp)).form; have HRB := hide hb4; have HRP := hide (hp4 rfl); have HB4 := hide (HB.out.only ho4 (by simp; omega)); have HC4 := hide (HC.out.only ho4 (by simp)); have HO4 := hide ((HO.out.mono (S' := [w.heap.size + 1 + 1]) (by simp)).trans ho4); have HB6 := hide (fin_blk (k := k) (n := n) (bv := .slice A bs.length cap) (pv := .slice A2 (strs parts).length cap2) HB4.out); have HC6 := hide (HC4.out.only (fin_only w.heap.size k n (.slice A bs.length cap) (.slice A2 (strs parts).length cap2) w4) (by simp)); have HO6 := hide ((HO4.out.mono (S' := [w.heap.size, w.heap.size + 1 + 1]) (by simp)).trans ((fin_only w.heap.size k n (.slice A bs.length cap) (.slice A2 (strs parts).length cap2) w4).mono (by simp))); have k1 := ha4.cell 1; have b0 := HB4.out.cell 0; have b1 := HB4.out.cell 1; have b2 := HB4.out.cell 2; have b3 := HB4.out.cell 3; have bf := HB4.out.frozen; have c0 := HC4.out.cell 0; have cf := HC4.out.frozen 0; simp at k1 b0 b1 b2 b3 c0; clear ha4 ho4 hb4 hp4)
        refine leaves_cons (f := 130) (args := #[.pointer (some ⟨w.heap.size, 0, none⟩), .pointer (some ⟨w.heap.size + 1, 0, none⟩)]) (by simp) (by simp [go_sem]) ?_
        refine (catch_idle _ _ _).mono ?_
        rintro e u' w5 ⟨rfl, rfl, hw⟩
        have HF := hide (fin_only w.heap.size k n (.slice A bs.length cap) (.slice A2 (strs parts).length cap2) (fin w.heap.size k n (.slice A bs.length cap) (.slice A2 (strs parts).length cap2) w4))
        have HW5 := hide (show w5 = (fin w.heap.size k n (.slice A bs.length cap) (.slice A2 (strs parts).length cap2) (fin w.heap.size k n (.slice A bs.length cap) (.slice A2 (strs parts).length cap2) w4)).setCell ⟨w.heap.size + 1, 0, none⟩ (.bool true) from hw)
        clear hw
        have HB5 := hide (show Blk w5 w.heap.size 145 #[.int .i64 k, .int .u64 n, .slice A bs.length cap, .slice A2 (strs parts).length cap2] by rw [HW5.out]; exact (fin_blk HB6.out).far (p := ⟨w.heap.size + 1, 0, none⟩) (by simp) _)
        have HC5 := hide (show Blk w5 (w.heap.size + 1) 4 #[.bool true] by rw [HW5.out]; exact (HC6.out.only HF.out (by simp)).set_ 0 _)
        have HO64 := hide (show Only [w.heap.size, w.heap.size + 1] w4 w5 by rw [HW5.out]; exact ((((fin_only w.heap.size k n (.slice A bs.length cap) (.slice A2 (strs parts).length cap2) w4).mono (by simp)).trans (HF.out.mono (by simp))).setCell (p := ⟨w.heap.size + 1, 0, none⟩) (.inl (by simp)) _))
        have HO5 := hide (show Only [] w w5 from ((HO4.out.mono (S' := [w.heap.size, w.heap.size + 1, w.heap.size + 1 + 1]) (by simp)).trans (HO64.out.mono (by simp))).mono (by simp; omega))
        have d0 := HB5.out.cell 0
        have d1 := HB5.out.cell 1
        have d2 := HB5.out.cell 2
        have d3 := HB5.out.cell 3
        have e0 := HC5.out.cell 0
        simp at d0 d1 d2 d3 e0
        simp [Leaves, settle, results, Tryz.results107, go_sem, d0, d1, d2, d3, e0]
        refine parse_yes HR.out HO5.out (fun N hN => ?_) (fun N hN => ?_)
        · exact ((HRB.out (w.heap.size :: (w.heap.size + 1) :: N) (by intro x hx; simp at hx ⊢; rcases hx with rfl | rfl | hx; omega; omega; have := hN x hx; omega)).only HO64.out (by simp)).less (by intro x hx; simp [hx])
        · exact ((HRP.out (w.heap.size :: (w.heap.size + 1) :: N) (by intro x hx; simp at hx ⊢; rcases hx with rfl | rfl | hx; omega; omega; have := hN x hx; omega)).only HO64.out (by simp)).less (by intro x hx; simp [hx])
      · have HR := hide (show parseV s = none by rw [HV.out, hr]; simp only; rw [if_neg hq])
        have hqb : ((q : Int) != (s.size : Int)) = true := by rw [bne_iff_ne]; omega
        clear hr hq
        go_enter_defers Tryz.func107, Tryz.ntmps107
        go_wp2_with (go_at_call 131; refine (HT.out _ HA.out).mono ?_; rintro e w4 ⟨bv, pv, rfl, ha4, ho4, hb4, hp4⟩; obtain ⟨A, cap, rfl, _, _⟩ := (hb4 [] (by simp)).formb; obtain ⟨A2, cap2, rfl, _, _⟩ := (hp4 rfl [] (by simp)).form; have HRB := hide hb4; have HRP := hide (hp4 rfl); have HB4 := hide (HB.out.only ho4 (by simp; omega)); have HC4 := hide (HC.out.only ho4 (by simp)); have HO4 := hide ((HO.out.mono (S' := [w.heap.size + 1 + 1]) (by simp)).trans ho4); have HB6 := hide (fin_blk (k := k) (n := n) (bv := .slice A bs.length cap) (pv := .slice A2 (strs parts).length cap2) HB4.out); have HC6 := hide (HC4.out.only (fin_only w.heap.size k n (.slice A bs.length cap) (.slice A2 (strs parts).length cap2) w4) (by simp)); have HO6 := hide ((HO4.out.mono (S' := [w.heap.size, w.heap.size + 1 + 1]) (by simp)).trans ((fin_only w.heap.size k n (.slice A bs.length cap) (.slice A2 (strs parts).length cap2) w4).mono (by simp))); have k1 := ha4.cell 1; have b0 := HB4.out.cell 0; have b1 := HB4.out.cell 1; have b2 := HB4.out.cell 2; have b3 := HB4.out.cell 3; have bf := HB4.out.frozen; have c0 := HC4.out.cell 0; have cf := HC4.out.frozen 0; simp at k1 b0 b1 b2 b3 c0; clear ha4 ho4 hb4 hp4)
        refine leaves_cons (f := 130) (args := #[.pointer (some ⟨w.heap.size, 0, none⟩), .pointer (some ⟨w.heap.size + 1, 0, none⟩)]) (by simp) (by simp [go_sem]) ?_
        refine (catch_panicking w.heap.size (w.heap.size + 1) _ _ _ _ _ _ _ _ [] _ HB6.out HC6.out (by omega)).mono ?_
        rintro e u' w5 ⟨rfl, rfl, hw⟩
        have HB5 := hide (show Blk w5 w.heap.size 145 #[.int .i64 0, .int .u64 0, .slice none 0 0, .slice none 0 0] by rw [hw]; exact (fin_blk (n := 0) HB6.out).far (p := ⟨w.heap.size + 1, 0, none⟩) (by simp) _)
        have HC5 := hide (show Blk w5 (w.heap.size + 1) 4 #[.bool false] by rw [hw]; exact (HC6.out.only (fin_only _ _ _ _ _ _) (by simp)).set_ 0 _)
        have HO5 := hide (show Only [] w w5 by rw [hw]; exact (((HO6.out.mono (S' := [w.heap.size, w.heap.size + 1 + 1]) (by simp)).trans ((fin_only w.heap.size 0 0 (.slice none 0 0) (.slice none 0 0) _).mono (by simp))).setCell (p := ⟨w.heap.size + 1, 0, none⟩) (.inr (by simp)) _).mono (by simp; omega))
        have d0 := HB5.out.cell 0
        have d1 := HB5.out.cell 1
        have d2 := HB5.out.cell 2
        have d3 := HB5.out.cell 3
        have e0 := HC5.out.cell 0
        simp at d0 d1 d2 d3 e0
        clear hw
        simp [Leaves, settle, results, Tryz.results107, go_sem, d0, d1, d2, d3, e0]
        exact parse_no HR.out HO5.out
end
section
open Go.RowKit Go.Deep

def kindT (s : ByteArray) : Int := match parseV s with | none => 0 | some nd => nd.1
def KindPost (s : ByteArray) (w : World) (e : Ending) (w' : World) : Prop := e = .returned (.int .i64 (kindT s)) ∧ Only [] w w'
theorem kindpost {s : ByteArray} {k : Int} {w w' : World} (h : kindT s = k) (ho : Only [] w w') : KindPost s w (.returned (.int .i64 k)) w' := by subst h; exact ⟨rfl, ho⟩

set_option maxRecDepth 100000 in
set_option maxHeartbeats 3200000 in
theorem Kind_any (w : World) (s : ByteArray) (hs : s.size ≤ maxLen) : Calls Tryz.prog 51 #[.string s] w (KindPost s w) := by
  have HP := hide (parse_any w s hs)
  cases hp : parseV s with
  | none =>
    rw [hp] at HP
    have HV := hide (show kindT s = 0 by unfold kindT; rw [hp])
    clear hp
    go_enter Tryz.func51, Tryz.ntmps51
    go_wp2_with (go_at_call 107; refine HP.out.mono ?_; rintro e w1 ⟨rfl, ho⟩; unfold nd0; have HO := hide ho; clear ho)
    go_ret
    exact kindpost HV.out (HO.out.alloc _)
  | some nd =>
    obtain ⟨k, n, bs, parts⟩ := nd
    rw [hp] at HP
    have HV := hide (show kindT s = k by unfold kindT; rw [hp])
    clear hp
    go_enter Tryz.func51, Tryz.ntmps51
    go_wp2_with (go_at_call 107; refine HP.out.mono ?_; rintro e w1 ⟨bv, pv, rfl, ho, hb, hp⟩; obtain ⟨A, cap, rfl, _, _⟩ := (hb [] (by simp)).formb; obtain ⟨A2, cap2, rfl, _, _⟩ := (hp [] (by simp)).form; have HO := hide ho; clear ho hb hp)
    go_ret
    exact kindpost HV.out (HO.out.alloc _)
end
section
open Go.RowKit Go.Deep

def hd (n : Nat) : UInt8 := if n < 10 then UInt8.ofNat (48 + n) else UInt8.ofNat (87 + n)
theorem hd_nat (n : Nat) (h : n < 16) : (hd n).toNat = if n < 10 then 48 + n else 87 + n := by
  unfold hd; split <;> simp [UInt8.toNat_ofNat'] <;> omega
def hexS : List UInt8 → List UInt8
  | [] => []
  | b :: r => hd (b.toNat / 16) :: hd (b.toNat % 16) :: hexS r
theorem hexS_append : ∀ l m : List UInt8, hexS (l ++ m) = hexS l ++ hexS m
  | [], m => rfl
  | b :: r, m => by simp only [List.cons_append, hexS, hexS_append r m]
theorem hexS_length : ∀ l : List UInt8, (hexS l).length = 2 * l.length
  | [] => rfl
  | b :: r => by simp only [hexS, List.length_cons, hexS_length r]; omega
theorem dig_at (n : Nat) (h : n < 16) (W : World) : (Instr.index 9 (.string ⟨#[48, 49, 50, 51, 52, 53, 54, 55, 56, 57, 97, 98, 99, 100, 101, 102]⟩) (.int .u8 (n : Int))).run Tryz.prog W = .ok (.int .u8 ((hd n).toNat : Int)) W := by
  rcases (show n = 0 ∨ n = 1 ∨ n = 2 ∨ n = 3 ∨ n = 4 ∨ n = 5 ∨ n = 6 ∨ n = 7 ∨ n = 8 ∨ n = 9 ∨ n = 10 ∨ n = 11 ∨ n = 12 ∨ n = 13 ∨ n = 14 ∨ n = 15 by omega) with rfl | rfl | rfl | rfl | rfl | rfl | rfl | rfl | rfl | rfl | rfl | rfl | rfl | rfl | rfl | rfl
  all_goals kernel_rfl
theorem reads_two (w : World) (e : TypeId) (x y : Value) (B : Nat) (hB : w.heap.size < B) : Reads (w.alloc (.cells #[x, y] e)) B 1 (some ⟨w.heap.size, 0, none⟩) 2 [x, y] :=
  ⟨rfl, fun _ => ⟨_, rfl, hB, fun j u hu => by
    rw [add_mk, Nat.zero_add, (Blk.new w e #[x, y]).cell j]
    simpa using hu⟩⟩
theorem take_snoc_l {α : Type} (l : List α) (k : Nat) (x : α) (h : l[k]? = some x) : l.take (k + 1) = l.take k ++ [x] := by
  rw [List.take_add_one, h]; rfl
theorem two_hex {v : Value} {w' : World} {B e k : Nat} {l : List UInt8} {c : UInt8} (h : w'.ownsRow B e 1 v (2 * k + 2) (ints .u8 (byts (hexS (l.take k))) ++ [.int .u8 ((hd (c.toNat / 16)).toNat : Int), .int .u8 ((hd (c.toNat % 16)).toNat : Int)])) (hc : l[k]? = some c) :
    w'.ownsRow B e 1 v (2 * (k + 1)) (ints .u8 (byts (hexS (l.take (k + 1))))) := by
  rw [take_snoc_l l k c hc, hexS_append, byts_append, ← ints_snoc_list]
  exact h
def StrPost (l : List UInt8) (w : World) (e : Ending) (w' : World) : Prop := e = .returned (.string ⟨l.toArray⟩) ∧ Only [] w w'
theorem strpost {l m : List UInt8} {w w' : World} (h : l = m) (ho : Only [] w w') : StrPost l w (.returned (.string ⟨m.toArray⟩)) w' := by subst h; exact ⟨rfl, ho⟩

set_option maxRecDepth 100000 in
set_option maxHeartbeats 6400000 in
theorem num_hex (w : World) (N : List Nat) (v : Value) (l : List UInt8) (hv : Rd w N v (ints .u8 (byts l))) (hl : l.length ≤ 1000000) :
    Calls Tryz.prog 139 #[v] w (StrPost (hexS l) w) := by
  obtain ⟨A, cap, rfl, hcap, hmx⟩ := hv.formb
  have HV := hide hv
  obtain ⟨n, hn⟩ : ∃ n, n = l.length := ⟨_, rfl⟩
  have HN := hide hn
  rw [← hn] at hcap HV hl ⊢
  clear hv hn
  obtain ⟨i0, hi, hz0, hz1, hz2⟩ := info_parts (show (Tryz.prog.info? 5).map (fun i => (i.zero, i.size, i.bytes)) = some (some (.int .u8 0), 1, 1) by kernel_rfl)
  have hwl : IntKind.i64.wrap (2 * (n : Int)) = 2 * (n : Int) := IntWalk.i64_in _ (by omega)
  have hmk : ∀ W, (Instr.makeSlice 55 (.int .i64 0) (.int .i64 (2 * (n : Int)))).run Tryz.prog W = .ok (.slice (some ⟨W.heap.size, 0, none⟩) 0 (2 * n)) (W.alloc (.cells (Array.replicate (2 * n) (.int .u8 0)) 5)) := by
    intro W
    exact run_make_row W 55 5 i0 _ Tryz.underlying55 hi hz0 hz1 rfl .i64 .i64 0 (2 * n) (Nat.zero_le _) (by rw [hz2]; omega) (by omega)
  have HOW := hide (World.ownsRow_made (base := w.heap.size) w (Array.replicate (2 * n) (.int .u8 0)) (2 * n) (Nat.le_refl _) (by unfold maxLen; omega) (e := 5) (size := 1) (by simp))
  have HO := hide ((Only.refl [] w).alloc (.cells (Array.replicate (2 * n) (.int .u8 0)) 5))
  go_enter Tryz.func139, Tryz.ntmps139
  go_wp2_with fail
  obtain ⟨w0, hw0⟩ : ∃ w0, w0 = w.alloc (.cells (Array.replicate (2 * n) (.int .u8 0)) 5) := ⟨_, rfl⟩
  rw [← hw0] at HOW HO ⊢
  have hsz : w.heap.size ≤ w0.heap.size := HO.out.size
  clear hw0 hmk hwl
  go_loopw [3, 12] (fun v i wr => ∃ k : Nat, k ≤ n ∧ i = .int .i64 k ∧ Hid (wr.ownsRow w.heap.size 5 1 v (2 * k) (ints .u8 (byts (hexS (l.take k))))) ∧ Hid (Only [] w wr)) (fun _ i _ => n - (intOf i).toNat)
  case atStart => exact ⟨0, Nat.zero_le _, rfl, HOW, HO⟩
  case round =>
    obtain ⟨k, hk, rfl, how, ho⟩ := hrel
    by_cases hlt : k < n
    · have hlt' : (k : Int) < n := by omega
      have hkl : k < l.length := by rw [← HN.out]; exact hlt
      obtain ⟨c, hc⟩ : ∃ c, l[k]? = some c := ⟨l[k], List.getElem?_eq_getElem hkl⟩
      have HC := hide hc
      obtain ⟨g, o, rfl, _, hg, hcell⟩ := HV.out.at_.2.2.2 k (.int .u8 (c.toNat : Int)) (ints_get (byts_get hc))
      have c1 : wr.cell? ⟨g, o + k, none⟩ = some (.int .u8 (c.toNat : Int)) := (cell_only ho.out hg (by simp)).trans hcell
      have hc256 := c.toNat_lt
      have hcI : (c.toNat : Int) < 256 := by omega
      have hA := fun W => dig_at (c.toNat / 16) (by omega) W
      have hB := fun W => dig_at (c.toNat % 16) (by omega) W
      rw [show ((c.toNat / 16 : Nat) : Int) = (c.toNat : Int) / 16 by omega] at hA
      rw [show ((c.toNat % 16 : Nat) : Int) = (c.toNat : Int) % 16 by omega] at hB
      have hband : bits .and .u8 (c.toNat : Int) 15 = (c.toNat : Int) % 16 := u8_and15 _ (by omega) (by omega)
      obtain ⟨Av, cv, rfl, hjc, hcm⟩ := own_form how.out
      have HSZ := hide ho.out.size
      obtain ⟨x, hx⟩ : ∃ x, x = (hd (c.toNat / 16)).toNat := ⟨_, rfl⟩
      obtain ⟨y, hy⟩ : ∃ y, y = (hd (c.toNat % 16)).toNat := ⟨_, rfl⟩
      rw [← hx] at hA
      rw [← hy] at hB
      have HX := hide hx
      have HY := hide hy
      have HOW2 := hide (World.ownsRow.alloc (own_only how.out ((Only.refl [] wr).drew) (by simp)) (.cells #[.int .u8 (x : Int), .int .u8 (y : Int)] 5))
      have HO2 := hide (ho.out.drew.alloc (.cells #[.int .u8 (x : Int), .int .u8 (y : Int)] 5))
      have HRN := hide (reads_two wr.drew 5 (.int .u8 (x : Int)) (.int .u8 (y : Int)) (wr.heap.size + 1) (Nat.lt_succ_self _))
      clear hc hcell hx hy
      go_upto_region 5 with (fail)
      go_region_held3 (fun _ => True) (exact trivial)
        (first
        | (refine step_append_any _ rfl (.tmp 16) (.tmp 23) 55 rfl w.heap.size 5 i0 (.int .u8 0) 1 1 Tryz.underlying55 hi hz0 hz1 hz2 rfl (by decide) _ (2 * k) _ rfl HOW2.out _ _ 2 2 [.int .u8 (x : Int), .int .u8 (y : Int)] rfl HRN.out (by simp [Value.oneCell']) (by unfold maxLen; omega) (by omega) (by have := HSZ.out; simp; omega) ?_; intro v1 w3 hown1 hg1 _; rw [HX.out, HY.out] at hown1; have HOW3 := hide (two_hex hown1 HC.out); have HO3 := hide (HO2.out.grown hg1 (fun j hj => .inr (own_block_ge HOW2.out hj))); clear hown1 hg1))
      all_goals
        go_wp2_with fail
        go_roundw
        case rel => exact ⟨k + 1, by omega, by go_num, HOW3, HO3⟩
        case measure => simp [intOf]; omega
    · obtain rfl : k = n := by omega
      have hge : ¬ (k : Int) < k := by omega
      obtain ⟨Av, cv, rfl, hjc, hcm⟩ := own_form how.out
      have HRD := hide (Rd.of_own (N := []) how.out (by simp)).1
      rw [List.take_of_length_le (Nat.le_of_eq HN.out.symm)] at HRD
      have hcv := rd_string (P := Tryz.prog) HRD.out 55 9 5 Tryz.underlying55 Tryz.underlying5 Tryz.underlying9
      go_wp2_with fail
      go_ret
      exact strpost rfl ho.out
end
section
open Go.RowKit Go.Deep

theorem ret_i {k : IntKind} {a b : Int} (h : a = b) : Ending.returned (.int k a) = .returned (.int k b) := by rw [h]
set_option maxHeartbeats 1600000 in
theorem digit_any (n : Nat) (h : n < 16) (w : World) : Calls Tryz.prog 142 #[.int .u8 (n : Int)] w fun e w' => e = .returned (.int .u8 ((hd n).toNat : Int)) ∧ w = w' := by
  have hv := hd_nat n h
  by_cases h1 : n < 10
  · rw [if_pos h1] at hv
    have HV := hide hv
    have h1' : (n : Int) < 10 := by omega
    clear hv h1
    go_enter Tryz.func142, Tryz.ntmps142
    go_wp2_with fail
    go_ret
    exact ⟨ret_i (by rw [HV.out]; omega), rfl⟩
  · rw [if_neg h1] at hv
    have HV := hide hv
    have h1' : ¬ (n : Int) < 10 := by omega
    clear hv h1
    go_enter Tryz.func142, Tryz.ntmps142
    go_wp2_with fail
    go_ret
    exact ⟨ret_i (by rw [HV.out]; omega), rfl⟩

/-- 'string([]byte{x})', the slice just built. -/
theorem conv_one (c : UInt8) (W : World) : (convert 55 9 (.slice (some ⟨W.heap.size, 0, none⟩) 1 1)).run Tryz.prog (W.alloc (.cells #[.int .u8 (c.toNat : Int)] 5)) = .ok (.string ⟨[c].toArray⟩) (W.alloc (.cells #[.int .u8 (c.toNat : Int)] 5)) :=
  rd_string (l := [c]) (N := []) (rd_new W 5 [] [.int .u8 (c.toNat : Int)] (by simp) (by unfold maxLen; simp)) 55 9 5 Tryz.underlying55 Tryz.underlying5 Tryz.underlying9
theorem conv_two (c d : UInt8) (W : World) : (convert 55 9 (.slice (some ⟨W.heap.size, 0, none⟩) 2 2)).run Tryz.prog (W.alloc (.cells #[.int .u8 (c.toNat : Int), .int .u8 (d.toNat : Int)] 5)) = .ok (.string ⟨[c, d].toArray⟩) (W.alloc (.cells #[.int .u8 (c.toNat : Int), .int .u8 (d.toNat : Int)] 5)) :=
  rd_string (l := [c, d]) (N := []) (rd_new W 5 [] [.int .u8 (c.toNat : Int), .int .u8 (d.toNat : Int)] (by simp) (by unfold maxLen; simp)) 55 9 5 Tryz.underlying55 Tryz.underlying5 Tryz.underlying9

theorem conv_two_drew (c d : UInt8) (W : World) : (convert 55 9 (.slice (some ⟨W.heap.size, 0, none⟩) 2 2)).run Tryz.prog (W.alloc (.cells #[.int .u8 (c.toNat : Int), .int .u8 (d.toNat : Int)] 5)).drew = .ok (.string ⟨[c, d].toArray⟩) (W.alloc (.cells #[.int .u8 (c.toNat : Int), .int .u8 (d.toNat : Int)] 5)).drew :=
  rd_string (l := [c, d]) (N := []) ((rd_new W 5 [] [.int .u8 (c.toNat : Int), .int .u8 (d.toNat : Int)] (by simp) (by unfold maxLen; simp)).only ((Only.refl [] _).drew) (by simp)) 55 9 5 Tryz.underlying55 Tryz.underlying5 Tryz.underlying9
theorem dec_split (u : Nat) (h : ¬ u < 10) : Lib.decDigits u = Lib.decDigits (u / 10) ++ [UInt8.ofNat (48 + u % 10)] := by
  rw [Lib.decDigits, dif_neg h]
theorem dec_len (u : Nat) (h : u < 18446744073709551616) : (Lib.decDigits u).length ≤ 20 := by
  rw [Lib.decDigits_length]
  rcases Nat.eq_zero_or_pos u with h0 | h0
  · subst h0; rw [Lib.nDigits_small (by omega)]; omega
  · have := Lib.numDigits_eq u h0 h
    split at this <;> omega

set_option maxRecDepth 100000 in
set_option maxHeartbeats 3200000 in
theorem print_ref (u : Nat) (hu : u < 18446744073709551616) (w : World) : Calls Tryz.prog 128 #[.int .u64 u] w (StrPost (Lib.decDigits u) w) := by
  have HL := hide (dec_len u hu)
  have HO := hide (Only.refl [] w)
  go_enter Tryz.func128, Tryz.ntmps128
  go_wp2_with fail
  go_loopw [0, 3] (fun x s wr => ∃ (v : Nat) (t : List UInt8), x = .int .u64 v ∧ v < 18446744073709551616 ∧ s = .string ⟨t.toArray⟩ ∧ t.length ≤ 20 ∧ Hid (Lib.decDigits u = Lib.decDigits v ++ t) ∧ Hid (Only [] w wr)) (fun x _ _ => (intOf x).toNat)
  case atStart => exact ⟨u, [], rfl, hu, rfl, by simp, hide (by simp), HO⟩
  case round =>
    obtain ⟨v, t, rfl, hv, rfl, htl, hd, ho⟩ := hrel
    clear hu
    have hm10 : v % 10 < 10 := Nat.mod_lt _ (by omega)
    have hb : (UInt8.ofNat (48 + v % 10)).toNat = 48 + v % 10 := by rw [UInt8.toNat_ofNat']; omega
    by_cases h9 : 9 < v
    · have h9' : (9 : Int) < v := by omega
      have HS := hide (dec_split v (by omega))
      have hcv := fun W => conv_one (UInt8.ofNat (48 + v % 10)) W
      have hlen : (UInt8.ofNat (48 + v % 10) :: t).length ≤ 20 := by
        have h1 := HL.out
        rw [hd.out, List.length_append, HS.out, List.length_append] at h1
        simp at h1 ⊢
        omega
      rw [hb, show ((48 + v % 10 : Nat) : Int) = 48 + (v : Int) % 10 by omega] at hcv
      generalize UInt8.ofNat (48 + v % 10) = c at *
      have hadd : ∀ W : World, (Op.stringOp .add ⟨[c].toArray⟩ ⟨t.toArray⟩).run Tryz.prog W = .ok (.string ⟨([c] ++ t).toArray⟩) W := fun W => run_string_add_lists W _ _ (by simp) (by omega)
      have hx0 : 0 ≤ (v : Int) % 10 := by omega
      have hx9 : (v : Int) % 10 ≤ 9 := by omega
      clear hb hm10
      go_wp2_with fail
      go_roundw
      case rel => exact ⟨v / 10, c :: t, (by rw [show ((v / 10 : Nat) : Int) = (v : Int) / 10 by omega]), by omega, rfl, hlen, hide (by rw [hd.out, HS.out, List.append_assoc]; rfl), ho.out.alloc _⟩
      case measure => simp [intOf]; omega
    · have h9' : ¬ (9 : Int) < v := by omega
      have hmod : v % 10 = v := by omega
      rw [hmod] at hb
      have hcv := fun W => conv_one (UInt8.ofNat (48 + v)) W
      have HV := hide (show Lib.decDigits u = UInt8.ofNat (48 + v) :: t by rw [hd.out, Lib.decDigits, dif_pos (by omega)]; rfl)
      rw [hb, show ((48 + v : Nat) : Int) = 48 + (v : Int) by omega] at hcv
      generalize UInt8.ofNat (48 + v) = c at *
      have hadd : ∀ W : World, (Op.stringOp .add ⟨[c].toArray⟩ ⟨t.toArray⟩).run Tryz.prog W = .ok (.string ⟨([c] ++ t).toArray⟩) W := fun W => run_string_add_lists W _ _ (by simp) (by omega)
      clear hb hm10 hmod
      go_wp2_with fail
      go_ret
      exact strpost HV.out (ho.out.alloc _)

theorem hexS_two (l : List UInt8) (k : Nat) (c : UInt8) (h : l[k]? = some c) : hexS (l.take (k + 1)) = hexS (l.take k) ++ [hd (c.toNat / 16), hd (c.toNat % 16)] := by
  rw [take_snoc_l l k c h, hexS_append]; rfl

set_option maxRecDepth 100000 in
set_option maxHeartbeats 6400000 in
theorem hex_ref (w : World) (N : List Nat) (v : Value) (l : List UInt8) (hv : Rd w N v (ints .u8 (byts l))) (hl : l.length ≤ 1000000) :
    Calls Tryz.prog 129 #[v] w (StrPost (hexS l) w) := by
  obtain ⟨A, cap, rfl, hcap, hmx⟩ := hv.formb
  have HV := hide hv
  obtain ⟨n, hn⟩ : ∃ n, n = l.length := ⟨_, rfl⟩
  have HN := hide hn
  rw [← hn] at hcap HV hl ⊢
  clear hv hn
  have HO := hide (Only.refl [] w)
  go_enter Tryz.func129, Tryz.ntmps129
  go_wp2_with fail
  go_loopw [3, 4] (fun s i wr => ∃ (k : Nat) (t : List UInt8), k ≤ n ∧ i = .int .i64 k ∧ s = .string ⟨t.toArray⟩ ∧ t.length ≤ 2 * k ∧ Hid (hexS (l.take k) = t) ∧ Hid (Only [] w wr)) (fun _ i _ => n - (intOf i).toNat)
  case atStart => exact ⟨0, [], Nat.zero_le _, rfl, rfl, by simp, hide rfl, HO⟩
  case round =>
    obtain ⟨k, t, hk, rfl, rfl, htl, ht, ho⟩ := hrel
    by_cases hlt : k < n
    · have hlt' : (k : Int) < n := by omega
      have hkl : k < l.length := by rw [← HN.out]; exact hlt
      obtain ⟨c, hc⟩ : ∃ c, l[k]? = some c := ⟨l[k], List.getElem?_eq_getElem hkl⟩
      have HT := hide (hexS_two l k c hc)
      obtain ⟨g, o, rfl, _, hg, hcell⟩ := HV.out.at_.2.2.2 k (.int .u8 (c.toNat : Int)) (ints_get (byts_get hc))
      have HCE := hide (show ∀ W, Only [] w W → W.cell? ⟨g, o + k, none⟩ = some (.int .u8 (c.toNat : Int)) from fun W h => (cell_only h hg (by simp)).trans hcell)
      have c1 := HCE.out _ ho.out
      have hc256 := c.toNat_lt
      have hcI : (c.toNat : Int) < 256 := by omega
      have HA := hide (fun W => digit_any (c.toNat / 16) (by omega) W)
      have HB := hide (fun W => digit_any (c.toNat % 16) (by omega) W)
      rw [show ((c.toNat / 16 : Nat) : Int) = (c.toNat : Int) / 16 by omega] at HA
      rw [show ((c.toNat % 16 : Nat) : Int) = (c.toNat : Int) % 16 by omega] at HB
      have hq : IntKind.u8.wrap ((c.toNat : Int) / 16) = (c.toNat : Int) / 16 := by rw [IntKind.wrap_u8]; omega
      have hm16 : ((c.toNat : Int)).tmod 16 = (c.toNat : Int) % 16 := Int.tmod_eq_emod_of_nonneg (by omega)
      have hcv := fun W => conv_two (hd (c.toNat / 16)) (hd (c.toNat % 16)) W
      have hcv2 := fun W => conv_two_drew (hd (c.toNat / 16)) (hd (c.toNat % 16)) W
      generalize hd (c.toNat / 16) = x at *
      generalize hd (c.toNat % 16) = y at *
      have hadd : ∀ W : World, (Op.stringOp .add ⟨t.toArray⟩ ⟨[x, y].toArray⟩).run Tryz.prog W = .ok (.string ⟨(t ++ [x, y]).toArray⟩) W := fun W => run_string_add_lists W _ _ (by omega) (by simp)
      have HO2 := hide ((ho.out.alloc (.cells #[.int .u8 (x.toNat : Int), .int .u8 (y.toNat : Int)] 5)).drew)
      have c2 := HCE.out _ HO2.out
      clear hc hcell
      go_upto_region 5 with (fail)
      go_region_with (first
        | (go_at_call 142; (with_reducible refine (HA.out _).mono ?_); rintro e w' ⟨rfl, rfl⟩)
        | (go_at_call 142; (with_reducible refine (HB.out _).mono ?_); rintro e w' ⟨rfl, rfl⟩))
      all_goals
        go_wp2_with fail
        go_roundw
        case rel => exact ⟨k + 1, t ++ [x, y], by omega, (by go_num), rfl, (by simp; omega), hide (by rw [HT.out, ht.out]), hide (by first | exact HO2.out | exact HO2.out.drew)⟩
        case measure => simp [intOf]; omega
    · obtain rfl : k = n := by omega
      have hge : ¬ (k : Int) < k := by omega
      have HV2 := hide (show hexS l = t by rw [← ht.out, List.take_of_length_le (Nat.le_of_eq HN.out.symm)])
      go_wp2_with fail
      go_ret
      exact strpost HV2.out ho.out
end
section
open Go.RowKit Go.Deep

def NumRPost' (r : Nat × Nat) (w : World) (e : Ending) (w' : World) : Prop := e = .returned (.tuple #[.int .u64 r.1, .int .i64 r.2]) ∧ w = w'
theorem numr' {a b : Nat} {r : Nat × Nat} {w : World} (h : r = (a, b)) : NumRPost' r w (.returned (.tuple #[.int .u64 a, .int .i64 b])) w := by
  subst h; exact ⟨rfl, rfl⟩

set_option maxRecDepth 100000 in
set_option maxHeartbeats 6400000 in
theorem read_ref (w : World) (s : ByteArray) (hs : s.size ≤ 1000000) : Calls Tryz.prog 126 #[.string s] w (NumRPost' (numR s.data.toList) w) := by
  by_cases h0 : s.size = 0
  · have HR := hide (numR_empty s h0)
    have hb : ((s.size : Int) == 0) = true := by rw [beq_iff_eq]; omega
    have hb1 : (s.size == 0) = true := by simpa using h0
    clear h0
    go_enter Tryz.func126, Tryz.ntmps126
    go_wp2_with fail
    go_ret2
    exact numr' HR.out
  have hpos : 0 < s.size := by omega
  have hb : ((s.size : Int) == 0) = false := by rw [beq_eq_false_iff_ne]; omega
  have hb1 : (s.size == 0) = false := by simpa using h0
  by_cases hlead : s[0].toNat = 48 ∧ 1 < s.size
  · have HR := hide (numR_lead s hlead.2 hlead.1)
    obtain ⟨h1, h2⟩ := hlead
    have h2' : (1 : Int) < s.size := by omega
    have h1' : ((s[0].toNat : Int) == 48) = true := by rw [beq_iff_eq]; omega
    clear h0 h1
    go_enter Tryz.func126, Tryz.ntmps126
    go_wp2_with fail
    go_ret2
    exact numr' HR.out
  have HLE := hide hlead
  have hcs : (¬ (1 : Int) < s.size) ∨ ((1 : Int) < s.size ∧ ((s[0].toNat : Int) == 48) = false) := by
    by_cases h2 : 1 < s.size
    · refine .inr ⟨by omega, ?_⟩
      rw [beq_eq_false_iff_ne]
      intro h
      exact hlead ⟨by omega, h2⟩
    · exact .inl (by omega)
  clear h0 hlead
  rcases hcs with h2 | ⟨h2, h1⟩
  all_goals
    go_enter Tryz.func126, Tryz.ntmps126
    go_wp2_with fail
    go_loop [4] (fun i => ∃ k : Nat, k ≤ s.size ∧ i = .int .i64 k ∧ Hid (Digs s k)) (fun i => s.size - (intOf i).toNat)
    case atStart => exact ⟨0, Nat.zero_le _, rfl, hide (fun i _ h => by omega)⟩
    case round =>
      obtain ⟨k, hk, rfl, hdg⟩ := hrel
      by_cases hlt : k < s.size
      · have hltI : (k : Int) < s.size := by omega
        cases hd : digB s[k] with
        | true =>
          have hc1 : (48 : Int) ≤ s[k].toNat := by simp [digB] at hd; omega
          have hc2 : (s[k].toNat : Int) ≤ 57 := by simp [digB] at hd; omega
          have HS := hide (digs_succ hdg.out hlt hd)
          clear hd
          go_wp2_with fail
          go_round
          case rel => exact ⟨k + 1, by omega, by go_num, HS⟩
          case measure => simp [intOf]; omega
        | false =>
          have HR := hide (numR_bad s k hlt hd)
          have hb : (s[k].toNat : Int) < 48 ∨ (57 : Int) < s[k].toNat ∧ ¬ (s[k].toNat : Int) < 48 := by simp [digB] at hd; omega
          clear hd
          rcases hb with hb | ⟨hb, hb2⟩
          all_goals
            go_wp2_with fail
            go_ret2
            exact numr' HR.out
      · obtain rfl : k = s.size := by omega
        have hge : ¬ (s.size : Int) < s.size := by omega
        have HALL := hide hdg.out
        have HGO := hide (numR_go s hpos (all_true s.data.toList fun i hi => hdg.out i (by simpa using hi) (by simpa using hi)) HLE.out)
        clear hdg
        go_wp2_with fail
        go_loop [5, 6] (fun x i => ∃ u k : Nat, k ≤ s.size ∧ x = .int .u64 u ∧ u < 18446744073709551616 ∧ i = .int .i64 k ∧ Hid (accN (s.data.toList.drop k) u = accN s.data.toList 0)) (fun _ i => s.size - (intOf i).toNat)
        case atStart => exact ⟨0, 0, Nat.zero_le _, rfl, by omega, rfl, hide rfl⟩
        case round =>
          obtain ⟨u, k, hk, rfl, hu, rfl, hacc⟩ := hrel
          by_cases hlt : k < s.size
          · have hltI : (k : Int) < s.size := by omega
            have HDR := hide (drop_at s k hlt)
            have HC := HALL.out k hlt hlt
            have hc1 : 48 ≤ s[k].toNat := by simp [digB] at HC; omega
            have hc2 : s[k].toNat ≤ 57 := by simp [digB] at HC; omega
            have hc1' : (48 : Int) ≤ s[k].toNat := by omega
            have hc2' : (s[k].toNat : Int) ≤ 57 := by omega
            clear HC
            by_cases hov : 1844674407370955161 < u ∨ (u = 1844674407370955161 ∧ 5 < s[k].toNat - 48)
            · have HR := hide (show numR s.data.toList = (0, 5) from by rw [HGO.out, ← hacc.out, HDR.out, accN, if_pos hov])
              have ht : (18446744073709551615 - ((s[k].toNat : Int) - 48)) / 10 < (u : Int) := by omega
              clear hov
              go_wp2_with fail
              go_ret2
              exact numr' HR.out
            · have HN := hide (show accN (s.data.toList.drop (k + 1)) (u * 10 + (s[k].toNat - 48)) = accN s.data.toList 0 from by rw [← hacc.out, HDR.out, accN, if_neg hov])
              have ht : ¬ (18446744073709551615 - ((s[k].toNat : Int) - 48)) / 10 < (u : Int) := by omega
              have hlim : u * 10 + (s[k].toNat - 48) < 18446744073709551616 := by omega
              clear hov
              go_wp2_with fail
              go_round
              case rel => exact ⟨u * 10 + (s[k].toNat - 48), k + 1, by omega, congrArg (Value.int .u64) (by omega), hlim, (by go_num), HN⟩
              case measure => simp [intOf]; omega
          · obtain rfl : k = s.size := by omega
            have hge : ¬ (s.size : Int) < s.size := by omega
            have HR := hide (show numR s.data.toList = (u, 0) from by rw [HGO.out, ← hacc.out, show List.drop s.size s.data.toList = [] from List.drop_of_length_le (Nat.le_of_eq rfl)]; rfl)
            go_wp2_with fail
            go_ret2
            exact numr' HR.out
end
end Go.Proofs.YtfipdjlalfpbnaaGreatDoor
